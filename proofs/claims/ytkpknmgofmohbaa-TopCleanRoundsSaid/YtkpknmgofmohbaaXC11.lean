/- What calls of the program return, under the conditions that each theorem states. -/
import Derived.Test.YtkpknmgofmohbaaXC09
import Derived.Test.YtkpknmgofmohbaaXC10
import Derived.Test.YtkpknmgofmohbaaXC08
import Derived.Test.YtkpknmgofmohbaaXC03
import Derived.Test.YtkpknmgofmohbaaXC05
namespace Go.Proofs.Ytkpknmgofmohbaa
open Go.RowKit Go.Proofs.Wit Try
def eH (n:Nat) (bits:List Nat) (i:Nat):List Nat:=(bits.take (min i 2)).map (·%2^n)
def eI (n:Nat) (bits:List Nat):List Nat:=eH n bits 2
theorem mn {n i:Nat} {bits:List Nat} (hi:i<bits.length) (h2:i<2):eH n bits (i+1)=eH n bits i++[bits[i]%2^n]:=by
 unfold eH
 rw [show min (i+1) 2=i+1 by omega,show min i 2=i by omega,List.take_succ_eq_append_getElem hi,List.map_append];rfl
theorem mo {n i:Nat} {bits:List Nat} (h2:¬i<2):eH n bits (i+1)=eH n bits i:=by
 unfold eH
 rw [show min (i+1) 2=2 by omega,show min i 2=2 by omega]
theorem jT {n:Nat} {bits:List Nat}:eH n bits bits.length=eI n bits:=by
 unfold eI eH
 by_cases h:bits.length≤2
 ·rw [show min bits.length 2=bits.length by omega,List.take_length,List.take_of_length_le (by omega)]
 rw [show min bits.length 2=2 by omega,show min 2 2=2 from rfl]
theorem jc {n i:Nat} {bits:List Nat}:(eH n bits i).length≤2:=by unfold eH;rw [List.length_map,List.length_take];omega
theorem lJ {n:Nat} {bits:List Nat}:∀x∈eI n bits,x<2^n:=fun x hx=>by
 obtain ⟨y,_,rfl⟩:=List.mem_map.1 hx
 exact Nat.mod_lt _ (Nat.pos_of_ne_zero (by simp))
set_option maxRecDepth 4000 in
theorem ml (n:Nat) (hn:n≤3) (A:Option Addr) (cA:Nat) (bits:List Nat) (w:World) (hA:Sl w A (bits.map V8)) (hb:∀x∈bits,x<256) (hl:bits.length≤maxLen):
    Cn Try.prog 12 [.int .i64 n,.slice A bits.length cA] w (fun v w'=>lk NI 3 w w' v (eI n bits)):=by
  obtain ⟨i0,hi0,hz0,hsz0,hby0⟩:=info_parts jd
  have hpw:2^n≤8:=Nat.pow_le_pow_right (by omega) hn
  have hp0:0<2^n:=Nat.pos_of_ne_zero (by simp)
  unfold maxLen at hl
  refine Cn.of func12 rfl rfl ?_
  refine gS (gR ?_);refine ai ?_;refine gE (gS (gR ?_));refine ai ?_;refine gE (gS (gS (gR ?_)));refine ad ?_;refine cq underlying23 ?_;refine ad ?_;refine gE (gB ?_)
  refine aa.cw (ob NI 3 [] []) ?_
  refine aa.loop (σ:=Nat×Option Nat×Nat×List Value) (fun z=>[(0,.int .i64 n),(5,aU z.2.1 (eH n bits z.1).length z.2.2.1),(8,.slice A bits.length cA),(9,.int .i64 bits.length),(10,.int .i64 z.1)]) (fun z=>[(z.2.1,ob NI 3 (eH n bits z.1) z.2.2.2)])
    (fun z=>z.1≤bits.length∧(z.2.1=none→(eH n bits z.1).length=0∧z.2.2.1=0)∧((eH n bits z.1).map NI++z.2.2.2).length=z.2.2.1) (fun z=>bits.length - z.1) (0,none,0,[]) ⟨Nat.zero_le _,fun _=>⟨rfl,rfl⟩,rfl⟩ ⟨rfl,rfl,rfl,rfl,rfl,trivial⟩ (List.Sublist.refl _) (fun z hI IH=>?_)
  obtain ⟨i,q,cap,sp⟩:=z
  obtain ⟨hi,hq,hcap⟩:=hI
  dsimp only at hi hq hcap IH⊢
  have hle:=jc (n:=n) (i:=i) (bits:=bits)
  refine gS (gR ?_);refine aL db ?_;refine gE (gS ?_)
  refine gC (fun hc=>?_) fun hc=>?_
  ·
   have hlt:i<bits.length:=by have h:=of_decide_eq_true hc;omega
   have hb8:=hb _ (List.getElem_mem hlt)
   refine gK (gS (gB (gS (gR ?_))));refine ad ?_
   refine aa.v (ah.idx rfl rfl rfl rfl rfl underlying23 sizeOf5 ⟨_,hA⟩ (by simp) i ⟨rfl,by simpa using hlt⟩) ?_
   refine aa.v (ah.ld rfl rfl rfl rfl isAgg5 (fun w _ hS=>(show w.cell? (dk A i)=some (.int .u8 (bits[i]:Int)) by rw [(Sl.ex hA hS.ext (by simp)).cell i (by simpa using hlt)];simp [List.getD_eq_getElem?_getD,hlt,V8]))) ?_
   iterate 2 refine ai ?_
   refine gE (gS (gR ?_));refine ad ?_;refine aL db ?_;refine gE ?_
   refine gC (fun hc=>?_) fun hc=>?_
   ·
    have h2:i<2:=by have h:=of_decide_eq_true hc;omega
    have hsucc:=mn (n:=n) hlt h2
    refine gR ?_
    iterate 2 refine ad ?_
    refine aa.v (ah.conv rfl rfl rfl (j8 (a:=(bits[i]:Int)) (k:=.i64) underlying5 xL (IntWalk.i64_in _ (by omega))) rfl) ?_
    refine ad ?_
    refine aa.v (ah.conv rfl rfl rfl (j8 (k:=.u64) xL underlying39 (gx (by omega))) rfl) ?_
    refine aC rfl rfl rfl rfl (iP (x:=1) (j:=n) rfl (by omega) (by omega)) ?_
    refine aC rfl rfl rfl rfl (qw (m:=1*2^n) rfl (by omega)) ?_
    refine aa.fR (c:=[_]) rfl rfl rfl rfl xy xk zeroValue3 rfl rfl (fun b24=>?_)
    refine aa.iv NI (news:=[bits[i]%(1*2^n)]) (spn:=[]) (xs:=eH n bits i) (sp:=sp) (q:=q) rfl rfl rfl rfl rfl xy hi0 hz0 hsz0 rfl hq 1 rfl 0 rfl hcap rfl (by decide) (fun _=>rfl) (by unfold maxLen;omega) (by rw [hby0];omega) (fun b' sp' cap' hlen=>?_)
    rw [Nat.one_mul,←hsucc] at hlen⊢
    refine ai ?_;refine gE (cu (gR ?_));refine aC rfl rfl rfl rfl (aK (by omega)) ?_;refine ad ?_;refine gE ?_
    exact IH (i+1,some b',cap',sp') _ _ ⟨hlt,(fun e=>by cases e),hlen⟩ (by dsimp only;omega) ⟨rfl,rfl,rfl,rfl,rfl,trivial⟩ (.cons _ (List.Sublist.refl _))
   have h2:¬i<2:=by have h:=of_decide_eq_false hc;omega
   have hm:=mo (n:=n) (bits:=bits) h2
   refine gK (cu (gR ?_));refine aC rfl rfl rfl rfl (aK (by omega)) ?_;refine ad ?_;refine gE ?_
   exact IH (i+1,q,cap,sp) _ _ ⟨hlt,by dsimp only;rw [hm];exact hq,by dsimp only;rw [hm];exact hcap⟩ (by dsimp only;omega) ⟨rfl,by dsimp only;rw [hm];rfl,rfl,rfl,rfl,trivial⟩ (by dsimp only;rw [hm];exact List.Sublist.refl _)
  have hge:¬i<bits.length:=by have h:=of_decide_eq_false hc;omega
  obtain rfl:bits.length=i:=by omega
  rw [jT] at hq hcap
  refine aa.exit rfl (gS (gR ?_))
  refine ad ?_;refine ai ?_;refine gE ?_
  refine gT func12 fun w' hS=>?_
  exact ⟨hS.ext,by rw [jT] at hS⊢;exact lk.mk hS 0 rfl rfl hq hcap⟩
def rZ (w w':World) (n F R:Nat) (xs:List Nat) (v:Value):Prop:=∃(nn ff ll:Int) (A:Option Addr) (rs:List RV) (c:Nat) (H:Hl) (ok:Bool),v=.tuple #[.agg (bt nn ff ll A rs.length c),.int .i64 n,.int .i64 F,.bool ok]∧c3 w w' H∧lh 38 31 3 34 H A rs∧((ok=false∧ll=0)∨(ok=true∧ll=(R:Int)+1∧rs.map RV.d=eD n F R xs))
set_option maxRecDepth 4000 in
theorem ov (a b c:Nat) (_ha:a<256) (_hb:b<256) (_hc8:c<256) (A:Option Addr) (cA:Nat) (bits:List Nat) (w:World) (hA:Sl w A (bits.map V8)) (hbi:∀x∈bits,x<256) (hl:bits.length≤maxLen):
    Cn Try.prog 5 [.int .u8 a,.int .u8 b,.int .u8 c,.slice A bits.length cA] w (fun v w'=>rZ w w' (2+a%2) (b%2) (c%3) (eI (2+a%2) bits) v):=by
  have hn:2≤2+a%2∧2+a%2≤3:=by omega
  obtain ⟨w0,hw0⟩:∃w0,w0=w:=⟨_,rfl⟩
  obtain ⟨n,hnn⟩:∃n,n=2+a%2:=⟨_,rfl⟩
  obtain ⟨F,hFF⟩:∃F,F=b%2:=⟨_,rfl⟩
  obtain ⟨R,hRR⟩:∃R,R=c%3:=⟨_,rfl⟩
  have hF1:F≤1:=by omega
  have hR2:R≤2:=by omega
  rw [←hnn] at hn⊢
  rw [←hFF,←hRR]
  obtain ⟨hpf,hp0⟩:=jF (n:=n) (F:=F) (R:=R) hn hF1 hR2
  have hxl:(eI n bits).length≤2:=jc
  have hmul:(eI n bits).length*(aW n R n [] F).length≤2*25:=Nat.mul_le_mul hxl hpf
  refine Cn.of func5 rfl rfl ?_
  refine gS (gR ?_)
  refine aa.dc rfl rfl rfl (fun _=>zeroValue27 _) (fun b8=>?_)
  iterate 3 refine ai ?_
  refine gE (gS (gR ?_));refine ad ?_
  refine aC rfl rfl rfl rfl (oA (m:=2) rfl (by decide)) ?_
  refine aa.v (ah.conv rfl rfl rfl (j8 (a:=((a%2:Nat):Int)) (k:=.i64) underlying5 xL (IntWalk.i64_in _ (by omega))) rfl) ?_
  refine aC rfl rfl rfl rfl (iQ (c:=(n:Int)) (by omega) (by omega)) ?_
  refine ad ?_
  refine aC rfl rfl rfl rfl (oA (m:=2) rfl (by decide)) ?_
  refine aa.v (ah.conv rfl rfl rfl (j8 (a:=((b%2:Nat):Int)) (k:=.i64) underlying5 xL (IntWalk.i64_in _ (by omega))) rfl) ?_
  refine ad ?_
  refine aC rfl rfl rfl rfl (oA (m:=3) rfl (by decide)) ?_
  refine aa.v (ah.conv rfl rfl rfl (j8 (a:=((c%3:Nat):Int)) (k:=.i64) underlying5 xL (IntWalk.i64_in _ (by omega))) rfl) ?_
  rw [←hFF,←hRR]
  iterate 3 refine ai ?_
  refine gE (gS (gR ?_))
  iterate 5 refine ad ?_
  refine gM rfl rfl rfl rfl rfl call12 (fun w _ hS=>(by exact ml n hn.2 A cA bits w (Sl.ex hA hS.ext (by simp)) hbi hl)) ?_
  rintro v w1 w2 Y' hS he ho
  obtain ⟨qx,cx,spx,rfl,hqx,hcx,hS'⟩:=qt hS he ho
  refine ⟨_,hS',?_⟩
  have hsl:∀{w3:World} {S3:List Nat} {H3:Hl} {Y3:List (Nat×Obj)},St w S3 w3 ((qx,ob NI 3 (eI n bits) spx)::H3) Y3→Sl w3 (qx.map (fun b=>⟨b,0,none⟩)) ((eI n bits).map NI):=fun s=>by
    cases hq:qx with
    |none=>rw [List.eq_nil_of_length_eq_zero (hqx hq).1];exact Sl.nil _ _
    |some b=>rw [hq] at s;exact Sl.c5 (s.get (j:=0) rfl)
  refine gM rfl rfl rfl rfl rfl call8 (fun w _ hS=>(by exact iM n F R hn (by omega) (by omega) (qx.map (fun b=>⟨b,0,none⟩)) cx (eI n bits) lJ w (hsl hS) hxl (by omega) (by omega) hp0)) ?_
  rintro v w1 w2 Y' hS he ⟨nn,ff,ll,B,rs,cr,H,e,rfl,hnew,hsy,hcase⟩
  refine ⟨_,hS.cY (pre:=[]) he hnew,?_⟩
  have hnew2:∀{a1 a2 a3:Option Nat×Obj} {w':World} {Y'':List (Nat×Obj)},St w0 [] w' ([a1,a2,a3]++H) Y''→c3 w0 w' H:=fun s=>c3.of (s.bR (List.sublist_append_right _ _))
  refine ad ?_
  iterate 2 refine gZ ?_
  refine aa.dc rfl rfl rfl (fun _=>zeroValue27 _) (fun b15=>?_)
  refine aa.bV rfl rfl rfl rfl xz 0 rfl rfl rfl rfl ?_
  refine ai ?_;refine gE (gS ?_)
  refine aa.s9 23 18 [(some b15,.cells (bt nn ff ll B rs.length cr) 27 (0,0))] mixed ?_
  refine cm.u (i:=0) (ah.eR rfl rfl rfl rfl xK 0 rfl xz rfl) sL rfl rfl rfl (by rw [ar rfl];repeat (first|exact List.Sublist.refl _|exact List.nil_sublist _|refine List.Sublist.cons_cons _ ?_|refine List.Sublist.cons _ ?_)) ?_
  refine cm.u (i:=1) (ah.mv rfl rfl rfl rfl) sL rfl rfl rfl (by rw [ar rfl];repeat (first|exact List.Sublist.refl _|exact List.nil_sublist _|refine List.Sublist.cons_cons _ ?_|refine List.Sublist.cons _ ?_)) ?_
  refine cm.u (i:=2) (ah.mv rfl rfl rfl rfl) sL rfl rfl rfl (by rw [ar rfl];repeat (first|exact List.Sublist.refl _|exact List.nil_sublist _|refine List.Sublist.cons_cons _ ?_|refine List.Sublist.cons _ ?_)) ?_
  refine cm.u (i:=3) (ah.mv rfl rfl rfl rfl) sL rfl rfl rfl (by rw [ar rfl];repeat (first|exact List.Sublist.refl _|exact List.nil_sublist _|refine List.Sublist.cons_cons _ ?_|refine List.Sublist.cons _ ?_)) ?_
  refine cm.u (i:=4) (ah.bin rfl rfl rfl rfl dU rfl) sL rfl rfl rfl (by rw [ar rfl];repeat (first|exact List.Sublist.refl _|exact List.nil_sublist _|refine List.Sublist.cons_cons _ ?_|refine List.Sublist.cons _ ?_)) ?_
  refine cm.u (i:=5) (ah.mv rfl rfl rfl rfl) sL rfl rfl rfl (by rw [ar rfl];repeat (first|exact List.Sublist.refl _|exact List.nil_sublist _|refine List.Sublist.cons_cons _ ?_|refine List.Sublist.cons _ ?_)) ?_
  refine cm.cases (d:=42) rfl (fun hc=>?_) (fun hc=>?_)
  ·
   have he0:e=0:=eq_of_beq (show (e==0)=true from hc)
   obtain ⟨hx0,_,e1,e2,e3,hds⟩:eI n bits≠[]∧e=0∧nn=n∧ff=2*(n:Int)∧ll=(R:Int)+1∧rs.map RV.d=eD n F R (eI n bits):=by
     rcases hcase with h|h
     · omega
     exact h
   have hrl:rs.length≤50:=by
     have h:=congrArg List.length hds
     rw [List.length_map,eD,eZ] at h;omega
   refine cm.u (i:=6) (ah.mr rfl rfl rfl rfl xw rfl (by exact xD) 3 rfl) sL rfl rfl rfl (by rw [ar rfl];repeat (first|exact List.Sublist.refl _|exact List.nil_sublist _|refine List.Sublist.cons_cons _ ?_|refine List.Sublist.cons _ ?_)) ?_
   refine cm.u (i:=7) (ah.nK rfl rfl rfl rfl xF 0 rfl rfl) sL rfl rfl rfl (by rw [ar rfl];repeat (first|exact List.Sublist.refl _|exact List.nil_sublist _|refine List.Sublist.cons_cons _ ?_|refine List.Sublist.cons _ ?_)) ?_
   refine cm.u (i:=8) (ah.blt rfl rfl rfl (eL xB) rfl) sL rfl rfl rfl (by rw [ar rfl];repeat (first|exact List.Sublist.refl _|exact List.nil_sublist _|refine List.Sublist.cons_cons _ ?_|refine List.Sublist.cons _ ?_)) ?_
   refine cm.u (i:=9) (ah.bin rfl rfl rfl rfl (rR (v:=true) (decide_eq_true (by omega))) rfl) sL rfl rfl rfl (by rw [ar rfl];repeat (first|exact List.Sublist.refl _|exact List.nil_sublist _|refine List.Sublist.cons_cons _ ?_|refine List.Sublist.cons _ ?_)) ?_
   refine cm.u (i:=10) (ah.c7 rfl rfl rfl rfl rfl) sL rfl rfl rfl (by rw [ar rfl];repeat (first|exact List.Sublist.refl _|exact List.nil_sublist _|refine List.Sublist.cons_cons _ ?_|refine List.Sublist.cons _ ?_)) ?_
   refine cm.u (i:=11) (ah.mv rfl rfl rfl rfl) sL rfl rfl rfl (by rw [ar rfl];repeat (first|exact List.Sublist.refl _|exact List.nil_sublist _|refine List.Sublist.cons_cons _ ?_|refine List.Sublist.cons _ ?_)) ?_
   refine cm.u (i:=12) (ah.mr rfl rfl rfl rfl xw rfl (by exact xk) 2 rfl) sL rfl rfl rfl (by rw [ar rfl];repeat (first|exact List.Sublist.refl _|exact List.nil_sublist _|refine List.Sublist.cons_cons _ ?_|refine List.Sublist.cons _ ?_)) ?_
   refine cm.u (i:=13) (ah.nK rfl rfl rfl rfl xl 0 rfl rfl) sL rfl rfl rfl (by rw [ar rfl];repeat (first|exact List.Sublist.refl _|exact List.nil_sublist _|refine List.Sublist.cons_cons _ ?_|refine List.Sublist.cons _ ?_)) ?_
   refine cm.u (i:=14) (ah.mv rfl rfl rfl rfl) sL rfl rfl rfl (by rw [ar rfl];repeat (first|exact List.Sublist.refl _|exact List.nil_sublist _|refine List.Sublist.cons_cons _ ?_|refine List.Sublist.cons _ ?_)) ?_
   refine cm.u (i:=15) (ah.bin rfl rfl rfl rfl (iQ (c:=(R:Int)+1) rfl (by omega)) rfl) sL rfl rfl rfl (by rw [ar rfl];repeat (first|exact List.Sublist.refl _|exact List.nil_sublist _|refine List.Sublist.cons_cons _ ?_|refine List.Sublist.cons _ ?_)) ?_
   refine cm.u (i:=16) (ah.bin rfl rfl rfl rfl (iu (v:=true) (by rw [e3];exact beq_self_eq_true _)) rfl) sL rfl rfl rfl (by rw [ar rfl];repeat (first|exact List.Sublist.refl _|exact List.nil_sublist _|refine List.Sublist.cons_cons _ ?_|refine List.Sublist.cons _ ?_)) ?_
   refine cm.u (i:=17) (ah.c7 rfl rfl rfl rfl rfl) sL rfl rfl rfl (by rw [ar rfl];repeat (first|exact List.Sublist.refl _|exact List.nil_sublist _|refine List.Sublist.cons_cons _ ?_|refine List.Sublist.cons _ ?_)) ?_
   refine cm.bV (i:=18) (v:=.agg (bt nn ff ll B rs.length cr)) rfl rfl rfl rfl rfl xz 2 rfl rfl rfl rfl (by rw [cd rfl];exact .cons_cons _ (List.nil_sublist _)) ?_
   refine cm.u (i:=19) (ah.mR rfl rfl rfl rfl) sL rfl rfl rfl (by rw [cd rfl];repeat (first|exact List.Sublist.refl _|exact List.nil_sublist _|refine List.Sublist.cons_cons _ ?_|refine List.Sublist.cons _ ?_)) ?_
   refine cm.u (i:=20) (ah.mR rfl rfl rfl rfl) sL rfl rfl rfl (by rw [cd rfl];repeat (first|exact List.Sublist.refl _|exact List.nil_sublist _|refine List.Sublist.cons_cons _ ?_|refine List.Sublist.cons _ ?_)) ?_
   refine cm.u (i:=21) (ah.mR rfl rfl rfl rfl) sL rfl rfl rfl (by rw [cd rfl];repeat (first|exact List.Sublist.refl _|exact List.nil_sublist _|refine List.Sublist.cons_cons _ ?_|refine List.Sublist.cons _ ?_)) ?_
   refine cm.done rfl ?_
   refine gE ?_
   refine aa.cC Try.f5 func5 _ (ax.cell rfl xK xz (j:=2) rfl rfl (ax.tmp rfl (ax.tmp rfl (ax.tmp rfl ax.nil)))) (fun w' hS=>?_)
   exact ⟨hS.ext,nn,ff,ll,B,rs,cr,H,true,rfl,(hw0 ▸ hnew2 (hw0 ▸ hS)),hsy,.inr ⟨rfl,e3,hds⟩⟩
  have he0:¬e=0:=by
    have h:(e==0)=false:=hc
    intro e';rw [e'] at h;cases h
  obtain ⟨_,_,e1,_⟩:eI n bits=[]∧e=3∧ll=0∧rs=[]:=by
    rcases hcase with h|h
    · exact h
    exact absurd h.2.1 he0
  refine cm.no (i:=6) rfl rfl rfl rfl rfl sL rfl rfl rfl (by rw [ar rfl];repeat (first|exact List.Sublist.refl _|exact List.nil_sublist _|refine List.Sublist.cons_cons _ ?_|refine List.Sublist.cons _ ?_)) ?_
  refine cm.no (i:=7) rfl rfl rfl rfl rfl sL rfl rfl rfl (by rw [ar rfl];repeat (first|exact List.Sublist.refl _|exact List.nil_sublist _|refine List.Sublist.cons_cons _ ?_|refine List.Sublist.cons _ ?_)) ?_
  refine cm.no (i:=8) rfl rfl rfl rfl rfl sL rfl rfl rfl (by rw [ar rfl];repeat (first|exact List.Sublist.refl _|exact List.nil_sublist _|refine List.Sublist.cons_cons _ ?_|refine List.Sublist.cons _ ?_)) ?_
  refine cm.no (i:=9) rfl rfl rfl rfl rfl sL rfl rfl rfl (by rw [ar rfl];repeat (first|exact List.Sublist.refl _|exact List.nil_sublist _|refine List.Sublist.cons_cons _ ?_|refine List.Sublist.cons _ ?_)) ?_
  refine cm.u (i:=10) (ah.lE rfl rfl rfl rfl rfl) sL rfl rfl rfl (by rw [ar rfl];repeat (first|exact List.Sublist.refl _|exact List.nil_sublist _|refine List.Sublist.cons_cons _ ?_|refine List.Sublist.cons _ ?_)) ?_
  refine cm.u (i:=11) (ah.mv rfl rfl rfl rfl) sL rfl rfl rfl (by rw [ar rfl];repeat (first|exact List.Sublist.refl _|exact List.nil_sublist _|refine List.Sublist.cons_cons _ ?_|refine List.Sublist.cons _ ?_)) ?_
  refine cm.no (i:=12) rfl rfl rfl rfl rfl sL rfl rfl rfl (by rw [ar rfl];repeat (first|exact List.Sublist.refl _|exact List.nil_sublist _|refine List.Sublist.cons_cons _ ?_|refine List.Sublist.cons _ ?_)) ?_
  refine cm.no (i:=13) rfl rfl rfl rfl rfl sL rfl rfl rfl (by rw [ar rfl];repeat (first|exact List.Sublist.refl _|exact List.nil_sublist _|refine List.Sublist.cons_cons _ ?_|refine List.Sublist.cons _ ?_)) ?_
  refine cm.no (i:=14) rfl rfl rfl rfl rfl sL rfl rfl rfl (by rw [ar rfl];repeat (first|exact List.Sublist.refl _|exact List.nil_sublist _|refine List.Sublist.cons_cons _ ?_|refine List.Sublist.cons _ ?_)) ?_
  refine cm.no (i:=15) rfl rfl rfl rfl rfl sL rfl rfl rfl (by rw [ar rfl];repeat (first|exact List.Sublist.refl _|exact List.nil_sublist _|refine List.Sublist.cons_cons _ ?_|refine List.Sublist.cons _ ?_)) ?_
  refine cm.no (i:=16) rfl rfl rfl rfl rfl sL rfl rfl rfl (by rw [ar rfl];repeat (first|exact List.Sublist.refl _|exact List.nil_sublist _|refine List.Sublist.cons_cons _ ?_|refine List.Sublist.cons _ ?_)) ?_
  refine cm.u (i:=17) (ah.lE rfl rfl rfl rfl rfl) sL rfl rfl rfl (by rw [ar rfl];repeat (first|exact List.Sublist.refl _|exact List.nil_sublist _|refine List.Sublist.cons_cons _ ?_|refine List.Sublist.cons _ ?_)) ?_
  refine cm.bV (i:=18) (v:=.agg (bt nn ff ll B rs.length cr)) rfl rfl rfl rfl rfl xz 2 rfl rfl rfl rfl (by rw [cd rfl];exact .cons_cons _ (List.nil_sublist _)) ?_
  refine cm.u (i:=19) (ah.mR rfl rfl rfl rfl) sL rfl rfl rfl (by rw [cd rfl];repeat (first|exact List.Sublist.refl _|exact List.nil_sublist _|refine List.Sublist.cons_cons _ ?_|refine List.Sublist.cons _ ?_)) ?_
  refine cm.u (i:=20) (ah.mR rfl rfl rfl rfl) sL rfl rfl rfl (by rw [cd rfl];repeat (first|exact List.Sublist.refl _|exact List.nil_sublist _|refine List.Sublist.cons_cons _ ?_|refine List.Sublist.cons _ ?_)) ?_
  refine cm.u (i:=21) (ah.mR rfl rfl rfl rfl) sL rfl rfl rfl (by rw [cd rfl];repeat (first|exact List.Sublist.refl _|exact List.nil_sublist _|refine List.Sublist.cons_cons _ ?_|refine List.Sublist.cons _ ?_)) ?_
  refine cm.done rfl ?_
  refine gE ?_
  refine aa.cC Try.f5 func5 _ (ax.cell rfl xK xz (j:=2) rfl rfl (ax.tmp rfl (ax.tmp rfl (ax.tmp rfl ax.nil)))) (fun w' hS=>?_)
  exact ⟨hS.ext,nn,ff,ll,B,rs,cr,H,false,rfl,(hw0 ▸ hnew2 (hw0 ▸ hS)),hsy,.inl ⟨rfl,e1⟩⟩
end Go.Proofs.Ytkpknmgofmohbaa
