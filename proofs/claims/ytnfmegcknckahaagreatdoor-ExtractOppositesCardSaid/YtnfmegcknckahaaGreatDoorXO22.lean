/- What calls of the program return, under the conditions that each theorem states. -/
import Derived.Test.YtnfmegcknckahaaGreatDoorXO20
import Derived.Test.YtnfmegcknckahaaGreatDoorXO17
import Derived.Test.YtnfmegcknckahaaGreatDoorXO21
import Derived.Test.YtnfmegcknckahaaGreatDoorXO02
import Derived.Test.YtnfmegcknckahaaGreatDoorXO03
import Derived.Test.YtnfmegcknckahaaGreatDoorXO04
import Derived.Test.YtnfmegcknckahaaGreatDoorXO15
import Derived.Test.YtnfmegcknckahaaGreatDoorXO13
namespace Go.Proofs.YtnfmegcknckahaaGreatDoor
open Go.RowKit Go.Proofs.Wit Tryz
theorem tz (op:Int) (w:World):Cn Tryz.prog 199 [.int .i64 op] w (fun v _=>v=.bool (decide (op≤8))):=by
 refine Cn.of func199 rfl rfl ?_
 refine gS (gR ?_);refine ai ?_;refine gE (gS (gR ?_));refine ah ?_;refine aw G7 ?_;refine ai ?_;refine gE ?_
 refine gT func199 fun w' hS=>?_
 exact ⟨hS.ext,rfl⟩
theorem DT (op:Int) (x y:Bool) (w:World):Cn Tryz.prog 241 [.int .i64 op,.bool x,.bool y] w (fun v _=>v=.bool (uS op x y)):=by
  refine Cn.of func241 rfl rfl ?_
  refine gS (gR ?_);refine ai ?_;refine gE (gS (gS (gR ?_)));refine ah ?_;refine gE (gB (gS (gR ?_)));refine aw bh ?_;refine ai ?_;refine gE ?_
  refine gC (fun hc=>?_) fun hc=>?_
  ·
   have h1:op=1:=by simpa using hc
   refine gS (gR ?_);refine ai ?_;refine gE ?_
   refine gT func241 fun w' hS=>?_
   exact ⟨hS.ext,by rw [h1];rfl⟩
  have h1:¬op=1:=by simpa using hc
  refine gS (gR ?_);refine aw bh ?_;refine ai ?_;refine gE ?_
  refine gC (fun hc=>?_) fun hc=>?_
  ·
   have h4:op=4:=by simpa using hc
   refine gS (gR ?_);refine ah ?_;refine fe bG ?_;refine ai ?_;refine gE ?_
   refine gT func241 fun w' hS=>?_
   exact ⟨hS.ext,by rw [h4];rfl⟩
  have h4:¬op=4:=by simpa using hc
  refine gS (gR ?_);refine aw bh ?_;refine ai ?_;refine gE ?_
  refine gC (fun hc=>?_) fun hc=>?_
  ·
   have h5:op=5:=by simpa using hc
   refine gS (gR ?_)
   iterate 2 refine ah ?_
   refine eD 17 (fun hc=>?_) fun hc=>?_
   ·
    have hx:x=true:=hc
    refine ah ?_;refine cz ?_;refine ai ?_;refine gE ?_
    refine gT func241 fun w' hS=>?_
    exact ⟨hS.ext,by rw [h5,hx];rfl⟩
   have hx:x=false:=hc
   refine cy ?_;refine bE ?_;refine ai ?_;refine gE ?_
   refine gT func241 fun w' hS=>?_
   exact ⟨hS.ext,by rw [h5,hx];rfl⟩
  have h5:¬op=5:=by simpa using hc
  refine gS (gR ?_);refine aw bh ?_;refine ai ?_;refine gE ?_
  refine gC (fun hc=>?_) fun hc=>?_
  ·
   have h6:op=6:=by simpa using hc
   refine gS (gR ?_)
   iterate 2 refine ah ?_
   refine eD 23 (fun hc=>?_) fun hc=>?_
   ·
    have hx:x=true:=hc
    refine cy ?_;refine cz ?_;refine ai ?_;refine gE ?_
    refine gT func241 fun w' hS=>?_
    exact ⟨hS.ext,by rw [h6,hx];rfl⟩
   have hx:x=false:=hc
   refine ah ?_;refine bE ?_;refine ai ?_;refine gE ?_
   refine gT func241 fun w' hS=>?_
   exact ⟨hS.ext,by rw [h6,hx];rfl⟩
  have h6:¬op=6:=by simpa using hc
  refine gS (gR ?_);refine aw bh ?_;refine ai ?_;refine gE ?_
  refine gC (fun hc=>?_) fun hc=>?_
  ·
   have h7:op=7:=by simpa using hc
   refine gS (gR ?_);refine ah ?_;refine fe bG ?_;refine ah ?_
   refine eD 30 (fun hc=>?_) fun hc=>?_
   ·
    have hx:x=false:=by simpa using hc
    refine cy ?_;refine cz ?_;refine ai ?_;refine gE ?_
    refine gT func241 fun w' hS=>?_
    exact ⟨hS.ext,by rw [h7,hx];rfl⟩
   have hx:x=true:=by simpa using hc
   refine ah ?_;refine bE ?_;refine ai ?_;refine gE ?_
   refine gT func241 fun w' hS=>?_
   exact ⟨hS.ext,by rw [h7,hx];rfl⟩
  have h7:¬op=7:=by simpa using hc
  refine gS (gR ?_);refine aw bh ?_;refine ai ?_;refine gE ?_
  refine gC (fun hc=>?_) fun hc=>?_
  ·
   have h8:op=8:=by simpa using hc
   refine gS (gR ?_)
   iterate 2 refine ah ?_
   refine df rfl rfl rfl rfl (G9 underlying4) ?_;refine ai ?_;refine gE ?_
   refine gT func241 fun w' hS=>?_
   exact ⟨hS.ext,by rw [h8];rfl⟩
  have h8:¬op=8:=by simpa using hc
  refine gK (dQ (gS (gR ?_)));refine ai ?_;refine gE ?_
  refine gT func241 fun w' hS=>?_
  exact ⟨hS.ext,by rw [uS,if_neg h1,if_neg h4,if_neg h5,if_neg h6,if_neg h7,if_neg h8];rfl⟩
theorem uJ:(Tryz.prog.info? 4).map (fun i=>(i.zero,i.size,i.bytes))=some (some (Value.bool false),1,1):=by kernel_rfl
set_option maxRecDepth 8000 in
theorem zr (a:Option Addr) (ca:Nat) (c:List NV) (bq bz:Nat) (lf:Nat→Bool) (w:World) (ha:FA w a c) (hC:gI c)
    (hleaf:∀w',Ex [] w w'→∀i:Nat,i<c.length→Cn Tryz.prog 240 [.int .i64 i,.pointer (some ⟨bq,0,none⟩),.pointer (some ⟨bz,0,none⟩)] w' (fun v _=>v=.bool (lf i))):
    Cn Tryz.prog 239 [.slice a c.length ca,.func (.func 240) #[] #[.pointer (some ⟨bq,0,none⟩),.pointer (some ⟨bz,0,none⟩)]] w (fun v _=>v=.bool (bV (rT c lf) (aO c))):=by
  obtain ⟨i1,hi1,hz1,hsz1,hby1⟩:=info_parts uJ
  have hO:=hC.nodes
  have hcl:=hC.len
  have hcp:0<c.length:=(aA.1 hC.iY).pos
  obtain ⟨VS,hVS⟩:∃VS:Nat→Bool,VS=fun k=>bV (rT c lf) (aa c k):=⟨_,rfl⟩
  refine Cn.of func239 rfl rfl ?_
  refine gS (gR ?_);refine ai ?_;refine gE (gS (gR ?_));refine ah ?_;refine dY Ji ?_
  refine ab.Eu Value.bool false rfl rfl rfl rfl rfl JO hi1 hz1 rfl hsz1 (by rw [hby1];omega) (by unfold maxLen;omega) (fun b5=>?_)
  refine ai ?_;refine gE (gS (gS (gR ?_)));refine ah ?_;refine dY Ji ?_;refine ah ?_;refine gE (gB ?_)
  refine ab.loop (σ:=Nat) (fun k=>[(0,.slice a c.length ca),(1,.func (.func 240) #[] #[.pointer (some ⟨bq,0,none⟩),.pointer (some ⟨bz,0,none⟩)]),(5,.slice (some ⟨b5,0,none⟩) (qP c.length VS false k).length c.length),(11,.slice a c.length ca),(12,.int .i64 c.length),(13,.int .i64 k)])
    (fun k=>[(some b5,ob Value.bool 4 (qP c.length VS false k) [])]) (fun k=>k≤c.length) (fun k=>c.length - k) 0 (Nat.zero_le _) ⟨rfl,rfl,by rw [jB];rfl,rfl,rfl,rfl,trivial⟩ (by rw [xW];exact List.Sublist.refl _) (fun k hI IH=>?_)
  refine gS (gR ?_);refine aw jl ?_;refine gE (gS ?_)
  refine gC (fun hc=>?_) fun hc=>?_
  ·
   have hlt:k<c.length:=by simpa using hc
   have hok:=hO k hlt
   have hop:=hok.op
   have hlk:k<(qP c.length VS false k).length:=by rw [jB];exact hlt
   refine gK (gS (gB (gS (gR ?_))));refine ah ?_
   refine ab.v (ae.ez rfl rfl rfl rfl rfl Ji Jd ⟨_,(ha).at_⟩ (aD (enc:=NV.cells) (sz:=6) (fun _=>rfl)) (by decide) (k) ⟨rfl,hlt⟩) ?_
   refine ab.v (ae.nR (cs:=NV.cells c[k]) rfl rfl rfl rfl Jt Jd (fun w _ hS=>Sl.many (enc:=NV.cells) (sz:=6) (ha.ay hS.ext).at_ (fun _=>rfl) hlt)) ?_
   refine ab.eN rfl rfl rfl (fun _=>Jq _) (fun b7=>?_)
   refine ai ?_
   refine ab.dG rfl rfl rfl rfl Jd 0 rfl rfl rfl rfl ?_
   refine gE (gS (gR ?_));refine al Jb I9 0 ?_;refine aq Ja 0 ?_;refine aw bh ?_;refine ah ?_
   refine eD 21 (fun hc=>?_) fun hc=>?_
   ·
    have h3:c[k].op=3:=by simpa using hc
    have hlf:lL c[k].op=true:=by rw [h3];rfl
    have hv:VS k=lf k:=by rw [hVS];exact (vL hlt hO hlf).trans (xV hC hlt)
    iterate 4 refine cy ?_
    refine cz ?_;refine gE (ab.bX rfl (gR ?_))
    iterate 4 refine ah ?_
    refine ab.uW (fs:=[]) (cs:=[.pointer (some ⟨bq,0,none⟩),.pointer (some ⟨bz,0,none⟩)]) rfl rfl rfl rfl rfl (fun _ _=>call240 _ _) (fun w _ hS=>(hleaf w hS.ext k hlt)) ?_
    refine ab.v (ae.dV rfl rfl rfl rfl rfl JO Jc (k) ⟨rfl,hlk⟩) ?_
    refine ab.xJ Value.bool _ rfl rfl rfl rfl Jc rfl 1 rfl hlk ?_
    refine gE (dQ (gR ?_));refine df rfl rfl rfl rfl (cD (by omega)) ?_;refine ah ?_;refine gE ?_
    exact IH (k+1) _ _ hlt (by omega) ⟨rfl,rfl,by simp only [jB];rfl,rfl,rfl,rfl,trivial⟩ (by rw [←hv,rF hlt];exact .cons _ (List.Sublist.refl _))
   have h3:¬c[k].op=3:=by simpa using hc
   refine al Jb I9 0 ?_;refine aq Ja 0 ?_
   refine gP rfl rfl rfl rfl rfl call199 (fun w _ hS=>(by exact tz c[k].op w)) ?_
   refine fe bG ?_;refine bE ?_;refine gE ?_
   refine gC (fun hc=>?_) fun hc=>?_
   ·
    have h8:¬c[k].op≤8:=by simpa using hc
    have hlf:lL c[k].op=true:=by unfold lL;simp;omega
    have hv:VS k=lf k:=by rw [hVS];exact (vL hlt hO hlf).trans (xV hC hlt)
    refine gR ?_
    iterate 4 refine ah ?_
    refine ab.uW (fs:=[]) (cs:=[.pointer (some ⟨bq,0,none⟩),.pointer (some ⟨bz,0,none⟩)]) rfl rfl rfl rfl rfl (fun _ _=>call240 _ _) (fun w _ hS=>(hleaf w hS.ext k hlt)) ?_
    refine ab.v (ae.dV rfl rfl rfl rfl rfl JO Jc (k) ⟨rfl,hlk⟩) ?_
    refine ab.xJ Value.bool _ rfl rfl rfl rfl Jc rfl 1 rfl hlk ?_
    refine gE (dQ (gR ?_));refine df rfl rfl rfl rfl (cD (by omega)) ?_;refine ah ?_;refine gE ?_
    exact IH (k+1) _ _ hlt (by omega) ⟨rfl,rfl,by simp only [jB];rfl,rfl,rfl,rfl,trivial⟩ (by rw [←hv,rF hlt];exact .cons _ (List.Sublist.refl _))
   have h8:c[k].op≤8:=by simpa using hc
   have hlf:lL c[k].op=false:=by unfold lL;simp;omega
   obtain ⟨kx,hkx⟩:∃j:Nat,c[k].x=(j:Int):=⟨c[k].x.toNat,by
     cases hX:cF c[k].op with
     |false=>have:=hok.x0 hX;omega
     |true=>have:=hok.x hX;omega⟩
   obtain ⟨ky,hky⟩:∃j:Nat,c[k].y=(j:Int):=⟨c[k].y.toNat,by
     cases hY:cm c[k].op with
     |false=>have:=hok.y0 hY;omega
     |true=>have:=hok.y hY;omega⟩
   have hlx:kx<c.length:=by
     cases hX:cF c[k].op with
     |false=>have:=hok.x0 hX;omega
     |true=>have:=hok.x hX;omega
   have hly:ky<c.length:=by
     cases hY:cm c[k].op with
     |false=>have:=hok.y0 hY;omega
     |true=>have:=hok.y hY;omega
   have etx:c[k].x.toNat=kx:=by omega
   have ety:c[k].y.toNat=ky:=by omega
   have hfx:kx<(qP c.length VS false k).length:=by rw [jB];exact hlx
   have hfy:ky<(qP c.length VS false k).length:=by rw [jB];exact hly
   have hv:uS c[k].op ((qP c.length VS false k).getD kx false) ((qP c.length VS false k).getD ky false)=VS k:=by
     rw [hVS]
     refine Bq hlt hO hlf (fun hX=>?_) (fun hY=>?_)
     · have:=hok.x hX;rw [etx,rG (by omega) hlx]
     have:=hok.y hY;rw [ety,rG (by omega) hly]
   refine ab.zb 18 16 [] mixed ?_
   refine eP.v (i:=0) (ae.mv rfl rfl rfl rfl) (List.nil_sublist _) rfl rfl rfl rfl sL ?_
   refine eP.v (i:=1) (ae.mv rfl rfl rfl rfl) (List.nil_sublist _) rfl rfl rfl rfl sL ?_
   refine eP.v (i:=2) (ae.aH rfl rfl rfl rfl Jb rfl (by exact I9) 0 rfl) (List.nil_sublist _) rfl rfl rfl rfl sL ?_
   refine eP.v (i:=3) (ae.dw rfl rfl rfl rfl Ja 0 rfl rfl) (List.nil_sublist _) rfl rfl rfl rfl sL ?_
   refine eP.v (i:=4) (ae.mv rfl rfl rfl rfl) (List.nil_sublist _) rfl rfl rfl rfl sL ?_
   refine eP.v (i:=5) (ae.aH rfl rfl rfl rfl Jb rfl (by exact I9) 4 rfl) (List.nil_sublist _) rfl rfl rfl rfl sL ?_
   refine eP.v (i:=6) (ae.dw rfl rfl rfl rfl Ja 0 rfl rfl) (List.nil_sublist _) rfl rfl rfl rfl sL ?_
   refine eP.v (i:=7) (ae.dV rfl rfl rfl rfl rfl JO Jc (kx) ⟨hkx,hfx⟩) (List.nil_sublist _) rfl rfl rfl rfl sL ?_
   refine eP.v (i:=8) (ae.qY Value.bool false rfl rfl rfl rfl Je 1 rfl hfx) (List.nil_sublist _) rfl rfl rfl rfl sL ?_
   refine eP.v (i:=9) (ae.mv rfl rfl rfl rfl) (List.nil_sublist _) rfl rfl rfl rfl sL ?_
   refine eP.v (i:=10) (ae.aH rfl rfl rfl rfl Jb rfl (by exact I9) 5 rfl) (List.nil_sublist _) rfl rfl rfl rfl sL ?_
   refine eP.v (i:=11) (ae.dw rfl rfl rfl rfl Ja 0 rfl rfl) (List.nil_sublist _) rfl rfl rfl rfl sL ?_
   refine eP.v (i:=12) (ae.dV rfl rfl rfl rfl rfl JO Jc (ky) ⟨hky,hfy⟩) (List.nil_sublist _) rfl rfl rfl rfl sL ?_
   refine eP.v (i:=13) (ae.qY Value.bool false rfl rfl rfl rfl Je 1 rfl hfy) (List.nil_sublist _) rfl rfl rfl rfl sL ?_
   refine eP.cC (i:=14) rfl rfl rfl rfl rfl rfl (fun _ _=>call241 _ _) (fun w _ hS=>(by exact DT c[k].op _ _ w)) (by rw [ec rfl];repeat (first|exact List.Sublist.refl _|exact List.nil_sublist _|refine List.Sublist.cons_cons _ ?_|refine List.Sublist.cons _ ?_)) ?_
   refine eP.v (i:=15) (ae.dV rfl rfl rfl rfl rfl JO Jc (k) ⟨rfl,hlk⟩) (List.nil_sublist _) rfl rfl rfl rfl sL ?_
   refine eP.xJ (i:=16) Value.bool _ rfl rfl rfl rfl rfl Jc rfl 1 rfl hlk (by rw [iX rfl];exact List.nil_sublist _) ?_
   refine eP.done rfl ?_
   refine gE (dQ (gR ?_));refine df rfl rfl rfl rfl (cD (by omega)) ?_;refine ah ?_;refine gE ?_
   exact IH (k+1) _ _ hlt (by omega) ⟨rfl,rfl,by simp only [jB];rfl,rfl,rfl,rfl,trivial⟩ (by rw [hv,rF hlt];exact .cons _ (List.Sublist.refl _))
  have hge:¬k<c.length:=by simpa using hc
  obtain rfl:k=c.length:=by omega
  have hl1:c.length - 1<(qP c.length VS false c.length).length:=by rw [jB];omega
  refine ab.exit rfl (gS (gR ?_))
  iterate 2 refine ah ?_
  refine dY Ji ?_
  refine df rfl rfl rfl rfl (iH (c:=((c.length - 1:Nat):Int)) (by omega) (by omega)) ?_
  refine ab.v (ae.dV rfl rfl rfl rfl rfl JO Jc (c.length - 1) ⟨rfl,hl1⟩) ?_
  refine ab.v (ae.qY Value.bool false rfl rfl rfl rfl Je 0 rfl hl1) ?_
  refine ai ?_;refine gE ?_
  refine gT func239 fun w' hS=>?_
  exact ⟨hS.ext,by rw [rG (by omega) (by omega),hVS,db];rfl⟩
theorem CL (i:Nat) (b10 b7 bn:Nat) (v n:Nat) (nums:List Int) (w:World) (h10:w.heap[b10]?=some (.cells #[.int .i64 (v:Int)] 3 (0,0))) (h7:w.heap[b7]?=some (.cells #[.slice (some ⟨bn,0,none⟩) n n] 39 (0,0)))
  (hb:jU w (some ⟨bn,0,none⟩) nums) (hn:nums.length=n) (hi:i<n) (hv:v<1024) (hk:0≤nums.getD i 0∧nums.getD i 0≤64):
  Cn Tryz.prog 240 [.int .i64 i,.pointer (some ⟨b10,0,none⟩),.pointer (some ⟨b7,0,none⟩)] w (fun u _=>u=.bool (v.testBit (nums.getD i 0).toNat)):=by
 have HA:∀{w':World} {j:Nat} {u:Value},Ex [] w w'→(#[Value.int .i64 (v:Int)]:Array Value)[j]?=some u→w'.cell? ⟨b10,j,none⟩=some u:=fun e h=>Ex.cell e h10 h
 have HB:∀{w':World} {j:Nat} {u:Value},Ex [] w w'→(#[Value.slice (some ⟨bn,0,none⟩) n n]:Array Value)[j]?=some u→w'.cell? ⟨b7,j,none⟩=some u:=fun e h=>Ex.cell e h7 h
 subst hn
 have hd:v / 2^(nums.getD i 0).toNat≤v:=Nat.div_le_self _ _
 have hgi:nums[i]=nums.getD i 0:=by simp [List.getD_eq_getElem?_getD,hi]
 have hfin:(((v / 2^(nums.getD i 0).toNat%2:Nat):Int)==1)=v.testBit (nums.getD i 0).toNat:=by
  rw [Nat.testBit_eq_decide_div_mod_eq,Bool.eq_iff_iff,beq_iff_eq,decide_eq_true_eq]
  omega
 refine Cn.of func240 rfl rfl ?_
 refine gS (gR ?_);refine ai ?_;refine gE (gS ?_)
 refine ab.draw 9 mixed rfl ?_
 refine aM.v (ae.ld (p:=⟨b10,0,none⟩) rfl rfl rfl rfl Ja (fun w _ hS=>HA hS.ext rfl)) ?_
 refine aM.v (ae.ld (p:=⟨b7,0,none⟩) rfl rfl rfl rfl JU (fun w _ hS=>HB hS.ext rfl)) ?_
 refine mH ?_
 refine aM.v (ae.idx rfl rfl rfl rfl rfl Jg I9 ⟨_,hb⟩ (by simp) (i) ⟨rfl,by simpa using hi⟩) ?_
 refine aM.v (ae.ld rfl rfl rfl rfl Ja (fun w _ hS=>(jU.ay hb hS.ext).at (i) hi)) ?_
 refine aM.v (ae.bin rfl rfl rfl rfl (Cm (x:=v) (j:=(nums.getD i 0).toNat) (by rw [hgi];omega) (by omega) (by omega)) rfl) ?_
 refine aM.v (ae.bin rfl rfl rfl rfl (zA (by omega)) rfl) ?_
 refine CT bh ?_;refine AF ?_
 refine aM.nil ?_
 refine gE ?_
 refine gT func240 fun w' hS=>?_
 exact ⟨hS.ext,by rw [←hfin];rfl⟩
end Go.Proofs.YtnfmegcknckahaaGreatDoor
namespace Go.Proofs.YtnfmegcknckahaaGreatDoor
open Go.RowKit Go.Proofs.Wit Tryz
def eF (bs:Nat) (q:Option Nat) (s:List Bool) (o:List Int) (sp:List Value):Hl:=[(some bs,ob Value.bool 4 s []),(q,ob bK 3 o sp)]
def lC (c:List NV) (i bs:Nat) (s:List Bool) (o:List Int) (v:Value) (h':Hl):Prop:=∃q' cap' sp' s' o',h'=eF bs q' s' o' sp'∧v=cK q' o'.length cap'∧(q'=none→o'.length=0∧cap'=0)∧(o'.map bK++sp').length=cap'∧Lv c i s o s' o'
set_option maxRecDepth 8000 in
theorem tp (a:Option Addr) (ca:Nat) (c:List NV) (hO:bd c) (hcl:c.length≤200) (bs:Nat):∀(i:Nat),i<c.length→∀(w:World) (q:Option Nat) (cap:Nat) (s:List Bool) (o:List Int) (sp:List Value),
    iB w (eF bs q s o sp)→FA w a c→(∀b o',a=some ⟨b,o',none⟩→b∉cI (eF bs q s o sp))→(q=none→o.length=0∧cap=0)→(o.map bK++sp).length=cap→s.length=c.length→ny c s o→
    qv Tryz.prog 172 [.slice a c.length ca,.int .i64 i,.slice (some ⟨bs,0,none⟩) c.length c.length,cK q o.length cap] w (eF bs q s o sp) (lC c i bs s o):=by
  obtain ⟨i1,hi1,hz1,hsz1,hby1⟩:=info_parts Ce
  intro i
  induction i using Nat.strongRecOn with
  |_ i IHi=>
  intro hi w q cap s o sp hh ha hsep hq ao hs hol
  have hok:=hO i hi
  have hop:=hok.op
  have has:Cv (cI (eF bs q s o sp)) w a c:=⟨ha.at_,hsep⟩
  have hole:=hol.le
  have hsi:i<s.length:=by omega
  refine qv.of hh func172 rfl rfl ?_
  unfold eF at has⊢
  refine gS (gR ?_);refine ai ?_;refine gE (gS (gS (gR ?_)))
  iterate 2 refine ah ?_
  refine ab.v (ae.dV rfl rfl rfl rfl rfl JO Jc (i) ⟨rfl,hi⟩) ?_
  refine ab.v (ae.qY Value.bool false rfl rfl rfl rfl Je 0 rfl hsi) ?_
  refine gE ?_
  refine gC (fun hc=>?_) fun hc=>?_
  ·
   have h1:sB s i=true:=hc
   refine gS (gR ?_);refine ah ?_;refine ai ?_;refine gE ?_
   refine gT func172 fun w' hS=>?_
   exact ⟨_,⟨q,cap,sp,s,o,rfl,rfl,hq,ao,Lv.seen h1⟩,hS⟩
  have h1:sB s i=false:=hc
  refine gK (gS (gR ?_))
  iterate 2 refine ah ?_
  refine ab.v (ae.dV rfl rfl rfl rfl rfl JO Jc (i) ⟨rfl,hi⟩) ?_
  refine ab.xJ Value.bool _ rfl rfl rfl rfl Jc rfl 0 rfl hsi ?_
  refine gE (gS (gR ?_))
  iterate 2 refine ah ?_
  refine ab.v (ae.ez rfl rfl rfl rfl rfl Ji Jd ⟨_,(has).at_⟩ (aD (enc:=NV.cells) (sz:=6) (fun _=>rfl)) (by decide) (i) ⟨rfl,hi⟩) ?_
  refine ab.v (ae.nR (cs:=NV.cells c[i]) rfl rfl rfl rfl Jt Jd (fun w _ hS=>Sl.many (enc:=NV.cells) (sz:=6) (has.ay hS.ext).at_ (fun _=>rfl) hi)) ?_
  refine ab.eN rfl rfl rfl (fun _=>Jq _) (fun b9=>?_)
  refine ab.dG rfl rfl rfl rfl Jd 0 rfl rfl rfl rfl ?_
  refine gE (gS (gS (gR ?_)));refine al Jb I9 0 ?_;refine aq Ja 0 ?_;refine aw bh ?_;refine ah ?_
  refine eD 25 (fun hc=>?_) fun hc=>?_
  ·
   have h3:c[i].op=3:=by simpa using hc
   have hlf:lL c[i].op=true:=by rw [h3];rfl
   iterate 4 refine cy ?_
   refine cz ?_;refine gE (ab.bX rfl (gS (gR ?_)))
   iterate 2 refine ah ?_
   refine ab.eh (c:=[_]) rfl rfl rfl rfl Jg I9 Jv rfl rfl (fun b33=>?_)
   refine ab.oh bK (xs:=o) (sp:=sp) (q:=q) (news:=[(i:Int)]) (spn:=[]) rfl rfl rfl rfl rfl Jg hi1 hz1 hsz1 rfl hq 3 rfl 0 rfl ao rfl (by decide) (fun _=>rfl) (by unfold maxLen;omega) (by rw [hby1];omega) (fun b' sp' cap' hlen2=>?_)
   refine ai ?_;refine gE ?_
   refine gT func172 fun w' hS=>?_
   exact ⟨_,⟨some b',cap',sp',s.set i true,o++[(i:Int)],rfl,rfl,(fun e=>by cases e),hlen2,Lv.leaf hi hO hs h1 hlf⟩,hS.dH (.cons _ (.cons _ (List.Sublist.refl _)))⟩
  have h3:¬c[i].op=3:=by simpa using hc
  refine al Jb I9 0 ?_;refine aq Ja 0 ?_
  refine gP rfl rfl rfl rfl rfl call199 (fun w _ hS=>(by exact tz c[i].op w)) ?_
  refine fe bG ?_;refine bE ?_;refine gE ?_
  refine gC (fun hc=>?_) fun hc=>?_
  ·
   have h8:¬c[i].op≤8:=by simpa using hc
   have hlf:lL c[i].op=true:=by unfold lL;simp;omega
   refine gS (gR ?_)
   iterate 2 refine ah ?_
   refine ab.eh (c:=[_]) rfl rfl rfl rfl Jg I9 Jv rfl rfl (fun b33=>?_)
   refine ab.oh bK (xs:=o) (sp:=sp) (q:=q) (news:=[(i:Int)]) (spn:=[]) rfl rfl rfl rfl rfl Jg hi1 hz1 hsz1 rfl hq 3 rfl 0 rfl ao rfl (by decide) (fun _=>rfl) (by unfold maxLen;omega) (by rw [hby1];omega) (fun b' sp' cap' hlen2=>?_)
   refine ai ?_;refine gE ?_
   refine gT func172 fun w' hS=>?_
   exact ⟨_,⟨some b',cap',sp',s.set i true,o++[(i:Int)],rfl,rfl,(fun e=>by cases e),hlen2,Lv.leaf hi hO hs h1 hlf⟩,hS.dH (.cons _ (.cons _ (List.Sublist.refl _)))⟩
  have h8:c[i].op≤8:=by simpa using hc
  have hlf:lL c[i].op=false:=by unfold lL;simp;omega
  obtain ⟨hkx,hky⟩:=A8 hi hO hlf
  have hX:=pe hop
  have hol1:=hol.set hsi
  have hsl1:(s.set i true).length=c.length:=by rw [List.length_set];exact hs
  refine gK (gS ?_)
  refine ab.jL (α:={z:Option Nat×Nat×List Value×List Bool×List Int // (z.1=none→z.2.2.2.2.length=0∧z.2.1=0)∧(z.2.2.2.2.map bK++z.2.2.1).length=z.2.1∧z.2.2.2.1.length=c.length∧ny c z.2.2.2.1 z.2.2.2.2∧((cF c[i].op=true∧Lv c c[i].x.toNat (s.set i true) o z.2.2.2.1 z.2.2.2.2∧∀u∈kH (aa c c[i].x.toNat),u∈kH (aa c i))∨(cF c[i].op=false∧z.2.2.2.1=s.set i true∧z.2.2.2.2=o))})
    (fun z=>[(0,.slice a c.length ca),(2,.slice (some ⟨bs,0,none⟩) c.length c.length),(3,cK z.1.1 z.1.2.2.2.2.length z.1.2.1),(9,.pointer (some ⟨b9,0,none⟩))]) (fun z=>eF bs z.1.1 z.1.2.2.2.1 z.1.2.2.2.2 z.1.2.2.1++[(some b9,.cells (NV.cells c[i]).toArray 66 (0,0))]) (fun z=>?_) (fun K=>?_)
  · -- what comes behind
   obtain ⟨⟨q2,jO,oT,s2,o2⟩,hq2,gN,hsl2,hol2,hA⟩:=z
   dsimp only at hq2 gN hsl2 hol2 hA⊢
   unfold eF
   refine gS (gS (gR ?_));refine al Jb I9 0 ?_;refine aq Ja 2 ?_;refine aw oN ?_;refine gE ?_
   refine gC (fun hc=>?_) fun hc=>?_
   ·
    have h5:5≤c[i].op:=by simpa using hc
    have hY:cm c[i].op=true:=by
      have:c[i].op=5∨c[i].op=6∨c[i].op=7∨c[i].op=8:=by omega
      rcases this with h|h|h|h<;>rw [h]<;>rfl
    have hy:=hok.y hY
    obtain ⟨y,hyy⟩:∃y:Nat,c[i].y=(y:Int):=⟨c[i].y.toNat,by omega⟩
    have hyi:y<i:=by omega
    have hyt:c[i].y.toNat=y:=by omega
    refine gR ?_;refine ah ?_;refine al Jb I9 5 ?_;refine aq Ja 2 ?_
    iterate 2 refine ah ?_
    refine ab.iG (h:=eF bs q2 s2 o2 oT) (hF:=[(some b9,.cells (NV.cells c[i]).toArray 66 (0,0))]) (fs:=[]) (cs:=[]) (fun _ v h'=>lC c y bs s2 o2 v h') rfl rfl rfl rfl rfl (fun _ _=>call172 _ _) (fun w1 Y' hS=>?_) (fun w1 v h1 hR=>?_)
    · have hS1:=hS.dH (List.sublist_append_left (eF bs q2 s2 o2 oT) _)
      have:=IHi y hyi (by omega) w1 q2 jO s2 o2 oT hS1.has ⟨(has.ay hS.ext).at_⟩ (vm ha (by omega) hsep hS1) hq2 gN hsl2 hol2
      rw [←hyy] at this
      exact this
    obtain ⟨q3,cap3,sp3,s3,o3,rfl,rfl,hq3,hcap3,hL⟩:=hR
    unfold eF
    refine ai ?_;refine gE (gS (gR ?_));refine ah ?_;refine ai ?_;refine gE ?_
    refine gT func172 fun w' hS=>?_
    exact ⟨_,⟨q3,cap3,sp3,s3,o3,rfl,rfl,hq3,hcap3,Lv.node hi hs h1 hlf hA (.inl ⟨hY,by rw [hyt];exact hL,hky hY⟩)⟩,hS.dH (List.sublist_append_left (eF bs q3 s3 o3 sp3) _)⟩
   have h5:¬5≤c[i].op:=by simpa using hc
   have hY:cm c[i].op=false:=by
     have:c[i].op=1∨c[i].op=2∨c[i].op=4:=by omega
     rcases this with h|h|h<;>rw [h]<;>rfl
   refine gK (gS (gR ?_));refine ah ?_;refine ai ?_;refine gE ?_
   refine gT func172 fun w' hS=>?_
   exact ⟨_,⟨q2,jO,oT,s2,o2,rfl,rfl,hq2,gN,Lv.node hi hs h1 hlf hA (.inr ⟨hY,rfl,rfl⟩)⟩,hS.dH (List.sublist_append_left (eF bs q2 s2 o2 oT) _)⟩
  · -- the first part
   refine gS (gR ?_);refine al Jb I9 0 ?_;refine aq Ja 0 ?_;refine aw oN ?_;refine gE ?_
   refine gC (fun hc=>?_) fun hc=>?_
   ·
    have h4:4≤c[i].op:=by simpa using hc
    have hXt:cF c[i].op=true:=by rw [hX];simpa using h4
    have hx:=hok.x hXt
    obtain ⟨x,hxx⟩:∃x:Nat,c[i].x=(x:Int):=⟨c[i].x.toNat,by omega⟩
    have hxi:x<i:=by omega
    have hxt:c[i].x.toNat=x:=by omega
    refine gR ?_;refine ah ?_;refine al Jb I9 4 ?_;refine aq Ja 0 ?_
    iterate 2 refine ah ?_
    refine ab.pick (pre:=[_,_,_]) (pre':=eF bs q (s.set i true) o sp++[(some b9,.cells (NV.cells c[i]).toArray 66 (0,0))]) [1,2,0] (by decide) rfl ?_
    refine ab.iG (h:=eF bs q (s.set i true) o sp) (hF:=[(some b9,.cells (NV.cells c[i]).toArray 66 (0,0))]) (fs:=[]) (cs:=[]) (fun _ v h'=>lC c x bs (s.set i true) o v h') rfl rfl rfl rfl rfl (fun _ _=>call172 _ _) (fun w1 Y' hS=>?_) (fun w1 v h1 hR=>?_)
    · have hS1:=hS.dH (List.sublist_append_left (eF bs q (s.set i true) o sp) _)
      have:=IHi x hxi (by omega) w1 q cap (s.set i true) o sp hS1.has ⟨(has.ay hS.ext).at_⟩ (vm ha (by omega) hsep hS1) hq ao hsl1 hol1
      rw [←hxx] at this
      exact this
    obtain ⟨q3,cap3,sp3,s3,o3,rfl,rfl,hq3,hcap3,hL⟩:=hR
    unfold eF
    refine ai ?_;refine gE ?_
    exact K ⟨(q3,cap3,sp3,s3,o3),hq3,hcap3,by rw [hL.len];exact hsl1,hol1.go hL,.inl ⟨hXt,by rw [hxt];exact hL,hkx hXt⟩⟩ _ _ sF (fun _ _ hS=>hS)
   have h4:¬4≤c[i].op:=by simpa using hc
   have hXf:cF c[i].op=false:=by rw [hX];simpa using h4
   refine gK ?_
   refine ab.pick (pre:=[_,_,_]) (pre':=eF bs q (s.set i true) o sp++[(some b9,.cells (NV.cells c[i]).toArray 66 (0,0))]) [1,2,0] (by decide) rfl ?_
   exact K ⟨(q,cap,sp,s.set i true,o),hq,ao,hsl1,hol1,.inr ⟨hXf,rfl,rfl⟩⟩ _ _ sF (fun _ _ hS=>hS)
end Go.Proofs.YtnfmegcknckahaaGreatDoor
namespace Go.Proofs.YtnfmegcknckahaaGreatDoor
open Go.RowKit Go.Proofs.Wit Tryz
set_option maxRecDepth 8000 in
theorem DY (a:Option Addr) (ca:Nat) (f:List NV) (w:World) (ha:FA w a f) (hl:f.length≤maxLen) (hck:aV f=0):
    Cn Tryz.prog 237 [.slice a f.length ca] w (fun v _=>∃(b:Bool) (e:Int),v=.tuple #[.bool b,.int .i64 e]∧((b=true∧e=0)↔lD (aO f))):=by
  obtain ⟨i1,hi1,hz1,hsz1,hby1⟩:=info_parts uJ
  obtain ⟨i2,hi2,hz2,hsz2,hby2⟩:=info_parts Ce
  obtain ⟨c,hcE⟩:∃c,c=aj f:=⟨_,rfl⟩
  have hC:gI c:=by rw [hcE];exact gI.aj hck
  have hO:=hC.nodes
  have hcl:=hC.len
  have hcp:0<c.length:=(aA.1 hC.iY).pos
  have htop:aO c=aO f:=by rw [hcE];exact qK hck
  have hT:aa c (c.length - 1)=aO f:=by rw [←db];exact htop
  refine Cn.of func237 rfl rfl ?_
  refine gS (gR ?_)
  iterate 2 refine ai ?_
  refine gE (gS (gS (gR ?_)));refine ah ?_
  refine gP rfl rfl rfl rfl rfl call54 (fun w _ hS=>(by have:=fR a ca f w (ha.ay hS.ext) hl;rw [hck] at this;exact this)) ?_
  refine ai ?_;refine gE (gS (gR ?_));refine ah ?_
  refine df rfl rfl rfl rfl (np (v:=false) rfl) ?_
  refine gE (ab.gj rfl (gK (gS (gR ?_))));refine ah ?_
  refine gM rfl rfl rfl rfl rfl call55 (fun w _ hS=>(by exact dZ a ca f w (ha.ay hS.ext) hl)) ?_
  rintro v w1 w2 Y' hS he ho
  rw [fN,←hcE] at ho
  obtain ⟨qc,capc,spc,rfl,hqc,hcapc,hS'⟩:=ak hS he ho
  refine ⟨_,hS',?_⟩
  refine ai ?_;refine gE (gS (gR ?_))
  iterate 2 refine ah ?_
  refine dY Ji ?_
  refine df rfl rfl rfl rfl (iH (c:=((c.length - 1:Nat):Int)) (by omega) (by omega)) ?_
  refine ah ?_;refine dY Ji ?_
  refine ab.Eu Value.bool false rfl rfl rfl rfl rfl JO hi1 hz1 rfl hsz1 (by rw [hby1];omega) (by unfold maxLen;omega) (fun b24=>?_)
  refine ab.cQ (ob bK 3 [] []) ?_
  refine ab.pick (pre:=[_,_,_]) (pre':=eF b24 none (List.replicate c.length false) [] []++[(qc,eO 66 c spc)]) [1,0,2] (by decide) rfl ?_
  refine ab.iG (h:=eF b24 none (List.replicate c.length false) [] []) (hF:=[(qc,eO 66 c spc)]) (fs:=[]) (cs:=[]) (fun _ v h'=>lC c (c.length - 1) b24 (List.replicate c.length false) [] v h') rfl rfl rfl rfl rfl (fun _ _=>call172 _ _) (fun w1 Y' hS=>?_) (fun w1 v h1 hR=>?_)
  · have hfa:FA w1 (qc.map (fun b=>⟨b,0,none⟩)) c:=aL hS 2 rfl (fun e=>(hqc e).1)
    have hS1:=hS.dH (List.sublist_append_left (eF b24 none (List.replicate c.length false) [] []) _)
    have hin:FV.In 66 [(qc,eO 66 c spc)] ⟨qc.map (fun b=>⟨b,0,none⟩),capc,c⟩:=⟨qc,spc,List.mem_cons_self ..,rfl,hqc,hcapc⟩
    exact tp (qc.map (fun b=>⟨b,0,none⟩)) capc c hO hcl b24 (c.length - 1) (by omega) w1 none 0 (List.replicate c.length false) [] [] hS1.has hfa (hin.sep hS).sep (fun _=>⟨rfl,rfl⟩) rfl (by simp) ny.nil
  obtain ⟨q6,cap6,sp6,s6,o6,rfl,rfl,hq6,hcap6,hL⟩:=hR
  obtain ⟨l,rfl,hn,hlt,hmem⟩:=hL.done hO (by omega)
  rw [hT] at hmem
  have hnd:=yA hC hn hlt
  have htau:=Am hnd hmem
  rw [List.length_map] at htau
  have hll:(l.map (fun j:Nat=>(j:Int))).length=l.length:=List.length_map ..
  have hl2:l.length≤200:=by
    have:=hn.length_le_of_subset (fun j hj=>List.mem_range.2 (hlt j hj):l⊆List.range c.length)
    simp at this;omega
  unfold eF
  refine ai ?_;refine gE (gS (gS (gR ?_)));refine ah ?_;refine dY Jg ?_;refine aw w6 ?_;refine gE ?_
  refine gC (fun hc=>?_) fun hc=>?_
  ·
   have h10:¬l.length≤10:=by rw [hll] at hc;simp at hc;omega
   refine gS (gR ?_)
   iterate 2 refine ai ?_
   refine gE ?_
   refine gT func237 fun w' hS=>?_
   exact ⟨hS.ext,false,8,rfl,⟨fun h=>(by cases h.1),fun h=>absurd (htau.1 h).1 h10⟩⟩
  have h10:l.length≤10:=by rw [hll] at hc;simp at hc;omega
  have hnums:=xD hmem (R:=fun v=>rT c (fun i=>v.testBit ((qB c.length l l.length).getD i 0).toNat)) (fun v u hu=>AE hC hlt v u hu)
  rw [List.length_map] at hnums
  have hpw:2^l.length≤2^10:=Nat.pow_le_pow_right (by decide) h10
  have hp10:(2:Nat)^10=1024:=by decide
  refine gK (gS (gR ?_));refine ah ?_;refine dY Ji ?_
  refine ab.Eu bK 0 rfl rfl rfl rfl rfl Jg hi2 hz2 rfl hsz2 (by rw [hby2];omega) (by unfold maxLen;omega) (fun b31=>?_)
  refine ab.eN rfl rfl rfl (fun _=>zeroValue39 _) (fun b7=>?_)
  refine ab.st rfl rfl rfl rfl JP rfl 0 rfl rfl ?_
  refine gE (gS (gS (gR ?_)));refine ah ?_;refine dY Jg ?_;refine ah ?_;refine gE (gB ?_)
  refine ab.loop (σ:=Nat) (fun k=>[(5,cK qc c.length capc),(6,cK q6 (l.map (fun j:Nat=>(j:Int))).length cap6),(7,.pointer (some ⟨b7,0,none⟩)),(32,cK q6 (l.map (fun j:Nat=>(j:Int))).length cap6),(33,.int .i64 (l.map (fun j:Nat=>(j:Int))).length),(34,.int .i64 k)])
    (fun k=>[(some b7,.cells #[.slice (some ⟨b31,0,none⟩) c.length c.length] 39 (0,0)),(some b31,ob bK 3 (qB c.length l k) []),(q6,ob bK 3 (l.map (fun j:Nat=>(j:Int))) sp6),(qc,eO 66 c spc)])
    (fun k=>k≤l.length) (fun k=>l.length - k) 0 (Nat.zero_le _) ⟨rfl,rfl,rfl,rfl,rfl,rfl,trivial⟩ (by rw [ys];exact .cons_cons _ (.cons_cons _ (.cons _ (List.Sublist.refl _)))) (fun k hI IH=>?_)
  refine gS (gR ?_);refine aw jl ?_;refine gE (gS ?_)
  refine gC (fun hc=>?_) fun hc=>?_
  ·
   have hk:k<l.length:=by rw [hll] at hc;simpa using hc
   have hkm:k<(l.map (fun j:Nat=>(j:Int))).length:=by rw [hll];exact hk
   obtain ⟨b6,rfl⟩:∃b,q6=some b:=by
     cases q6 with
     |none=>have:=(hq6 rfl).1;omega
     |some b=>exact ⟨b,rfl⟩
   have hlk:l[k]<c.length:=hlt _ (List.getElem_mem hk)
   have hgk:(l.map (fun j:Nat=>(j:Int))).getD k 0=(l[k]:Int):=by simp [List.getD_eq_getElem?_getD,hk]
   refine gK (gS (gB (gS (gR ?_))));refine ah ?_
   refine ab.v (ae.dV rfl rfl rfl rfl rfl Jg I9 (k) ⟨rfl,hkm⟩) ?_
   refine ab.v (ae.qY bK 0 rfl rfl rfl rfl Ja 2 rfl hkm) ?_
   iterate 2 refine ai ?_
   refine gE (gR ?_);refine aq JU 0 ?_
   iterate 2 refine ah ?_
   refine ab.v (ae.dV rfl rfl rfl rfl rfl Jg I9 (l[k]) ⟨hgk,hlk⟩) ?_
   refine ab.xJ (Value.int .i64) _ rfl rfl rfl rfl I9 rfl 1 rfl (by rw [vw];exact hlk) ?_
   refine gE (dQ (gR ?_));refine df rfl rfl rfl rfl (cD (by omega)) ?_;refine ah ?_;refine gE ?_
   exact IH (k+1) _ _ hk (by omega) ⟨rfl,rfl,rfl,rfl,rfl,rfl,trivial⟩ (by rw [←AW hn hk];exact List.Sublist.refl _)
  have hge:¬k<l.length:=by rw [hll] at hc;simpa using hc
  obtain rfl:k=l.length:=by omega
  refine ab.exit rfl (gS (gS (gR ?_)))
  refine ah ?_;refine dY Jg ?_
  refine df rfl rfl rfl rfl (FT (x:=1) (j:=l.length) (by rw [hll]) (by omega) (by omega)) ?_
  refine ah ?_;refine gE (gB ?_)
  refine ab.loop (σ:=Nat) (fun v=>[(5,cK qc c.length capc),(7,.pointer (some ⟨b7,0,none⟩)),(46,.int .i64 ((1*2^l.length:Nat):Int)),(47,.int .i64 v)])
    (fun _=>[(some b7,.cells #[.slice (some ⟨b31,0,none⟩) c.length c.length] 39 (0,0)),(some b31,ob bK 3 (qB c.length l l.length) []),(qc,eO 66 c spc)])
    (fun v=>v≤2^l.length∧∀u,u<v→bV (rT c (fun i=>u.testBit ((qB c.length l l.length).getD i 0).toNat)) (aO f)=true) (fun v=>2^l.length - v) 0 ⟨Nat.zero_le _,fun u hu=>absurd hu (Nat.not_lt_zero _)⟩ ⟨rfl,rfl,rfl,rfl,trivial⟩ (.cons_cons _ (.cons_cons _ (.cons _ (List.Sublist.refl _)))) (fun v hI IH=>?_)
  obtain ⟨hvl,hall⟩:=hI
  refine gS (gR ?_);refine aw jl ?_;refine gE (gS ?_)
  refine gC (fun hc=>?_) fun hc=>?_
  ·
   have hv:v<2^l.length:=by
     have:(v:Int)<((1*2^l.length:Nat):Int):=by simpa using hc
     omega
   refine gK (gS (gB (gS (gR ?_))));refine ah ?_
   refine ab.eN rfl rfl rfl (fun _=>Jv _) (fun b10=>?_)
   refine ab.st rfl rfl rfl rfl I9 rfl 0 rfl rfl ?_
   refine gE (gS (gR ?_));refine ah ?_
   refine ab.v (ae.ux rfl rfl rfl rfl rfl) ?_
   refine gP rfl rfl rfl rfl rfl call239 (fun w _ hS=>(by have:=zr (qc.map (fun b=>⟨b,0,none⟩)) capc c b10 b7 (fun i=>v.testBit ((qB c.length l l.length).getD i 0).toNat) w (aL hS 3 rfl (fun e=>(hqc e).1)) hC (fun w' e i hi=>CL i b10 b7 b31 v c.length (qB c.length l l.length) w' (e.gG (hS.get (j:=0) rfl)) (e.gG (hS.get (j:=1) rfl)) (jU.ay (Sl.dg (hS.get (j:=2) rfl)) e) vw hi (by omega) (by rw [vx hi];split<;>omega));rw [htop] at this;exact this)) ?_
   refine fe bG ?_;refine gE ?_
   refine gC (fun hc=>?_) fun hc=>?_
   ·
    have hb:bV (rT c (fun i=>v.testBit ((qB c.length l l.length).getD i 0).toNat)) (aO f)=false:=by simpa using hc
    refine gS (gR ?_)
    iterate 2 refine ai ?_
    refine gE ?_
    refine gT func237 fun w' hS=>?_
    exact ⟨hS.ext,false,0,rfl,⟨fun h=>(by cases h.1),fun h=>by have:=hnums.1 (htau.1 h).2 v hv;rw [hb] at this;cases this⟩⟩
   have hb:bV (rT c (fun i=>v.testBit ((qB c.length l l.length).getD i 0).toNat)) (aO f)=true:=by simpa using hc
   refine gK (dQ (gR ?_));refine df rfl rfl rfl rfl (cD (by omega)) ?_;refine ah ?_;refine gE ?_
   refine IH (v+1) _ _ ⟨hv,fun u hu=>?_⟩ (by omega) ⟨rfl,rfl,rfl,rfl,trivial⟩ (.cons _ (List.Sublist.refl _))
   by_cases e:u=v
   · rw [e];exact hb
   exact hall u (by omega)
  have hge:¬v<2^l.length:=by
    have:¬(v:Int)<((1*2^l.length:Nat):Int):=by simpa using hc
    omega
  obtain rfl:v=2^l.length:=by omega
  refine ab.exit rfl (gS (gR ?_))
  iterate 2 refine ai ?_
  refine gE ?_
  refine gT func237 fun w' hS=>?_
  exact ⟨hS.ext,true,0,rfl,⟨fun _=>htau.2 ⟨h10,hnums.2 hall⟩,fun _=>⟨rfl,rfl⟩⟩⟩
end Go.Proofs.YtnfmegcknckahaaGreatDoor
namespace Go.Proofs.YtnfmegcknckahaaGreatDoor
open Go.RowKit Go.Proofs.Wit Tryz
theorem BO (a:Option Addr) (ca:Nat) (f:List NV) (t:Tr) (w:World) (ha:FA w a f) (hf:Cf f t):
    Cn Tryz.prog 224 [.slice a f.length ca] w (fun v _=>∃b,v=.bool b∧(b=true↔lD t)):=by
  refine Cn.of func224 rfl rfl ?_
  refine gS (gR ?_);refine ai ?_;refine gE (gS (gR ?_));refine ah ?_
  refine gM rfl rfl rfl rfl rfl call237 (fun w _ hS=>(by exact DY a ca f w (ha.ay hS.ext) (aC hf.eq) hf.iY)) ?_
  rintro v w1 w2 Y' hS he ⟨b,e,rfl,hb⟩
  rw [hf.top] at hb
  refine ⟨_,hS.later he,?_⟩
  refine ah ?_
  iterate 2 refine fW ?_
  iterate 2 refine ai ?_
  refine gE (gS (gR ?_))
  iterate 2 refine ah ?_
  refine eD 11 (fun hc=>?_) fun hc=>?_
  ·
   have hbt:b=true:=hc
   refine ah ?_;refine aw bh ?_;refine cz ?_;refine ai ?_;refine gE ?_
   refine gT func224 fun w' hS=>?_
   exact ⟨hS.ext,_,rfl,by rw [←hb];simp [hbt]⟩
  have hbf:b=false:=hc
  iterate 2 refine cy ?_
  refine bE ?_;refine ai ?_;refine gE ?_
  refine gT func224 fun w' hS=>?_
  exact ⟨hS.ext,false,rfl,by rw [←hb];simp [hbf]⟩
def lA (r:Int):FuncId:=if r=1 then 224 else if r=2 then 225 else if r=3 then 226 else if r=4 then 229 else if r=5 then 231 else if r=6 then 232 else if r=7 then 234 else if r=8 then 235 else 236
abbrev xk:Nat:=0
abbrev EE:=BZ xk lA
theorem BP {r:Int} (h1:1≤r) (h9:r≤9):∀args w,(callFunc (lA r) args).run Tryz.prog w=.ok (.enter (lA r) args) w:=
 nine (p:=fun r=>∀args w,(callFunc (lA r) args).run Tryz.prog w=.ok (.enter (lA r) args) w) ⟨(fun _ _=>call224 _ _),(fun _ _=>call225 _ _),(fun _ _=>call226 _ _),(fun _ _=>call229 _ _),(fun _ _=>call231 _ _),(fun _ _=>call232 _ _),(fun _ _=>call234 _ _),(fun _ _=>call235 _ _),(fun _ _=>call236 _ _)⟩ h1 h9
theorem zB (r:Int) (a:Option Addr) (ca:Nat) (f:List NV) (t:Tr) (w:World) (h1:1≤r) (h9:r≤9) (ha:FA w a f) (hf:Cf f t):
  Cn Tryz.prog (lA r) [.slice a f.length ca] w (fun v _=>∃b,v=.bool b∧(b=true↔oD r t)):=
 nine (p:=fun r=>Cn Tryz.prog (lA r) [.slice a f.length ca] w (fun v _=>∃b,v=.bool b∧(b=true↔oD r t)))
  ⟨BO a ca f t w ha hf,D7 a ca f t w ha hf,D5 a ca f t w ha hf,Ec a ca f t w ha hf,Eb a ca f t w ha hf,D9 a ca f t w ha hf,D6 a ca f t w ha hf,D8 a ca f t w ha hf,Ea a ca f t w ha hf⟩ h1 h9
end Go.Proofs.YtnfmegcknckahaaGreatDoor
