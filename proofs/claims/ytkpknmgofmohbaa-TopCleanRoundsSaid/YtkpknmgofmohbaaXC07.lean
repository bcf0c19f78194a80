/- What calls of the program return, under the conditions that each theorem states. -/
import Derived.Test.YtkpknmgofmohbaaXC04
import Derived.Test.YtkpknmgofmohbaaXC03
import Derived.Test.YtkpknmgofmohbaaXC05
import Derived.Test.YtkpknmgofmohbaaXC06
namespace Go.Proofs.Ytkpknmgofmohbaa
open Go.RowKit Go.Proofs.Wit Try
def ptr (b:Nat):Value:=.pointer (some ⟨b,0,none⟩)
theorem nR:(Try.prog.info? 78).map (fun i=>(i.zero,i.size,i.bytes))=some (some (.agg #[.int .i64 0,.int .i64 0]),2,16):=by kernel_rfl
theorem rC:(Try.prog.info? 55).map (fun i=>(i.zero,i.size,i.bytes))=some (some (.slice none 0 0),1,24):=by kernel_rfl
theorem fu (a:Option Addr) (ca:Nat) (f:List CD) (w:World) (ha:CA w a f) (hl:f.length≤1000):
    Cn Try.prog 28 [.slice a f.length ca] w (fun v w'=>eW 78 w w' v f):=by
  obtain ⟨i0,hi,hz,hsz,hby⟩:=info_parts nR
  refine Cn.of func28 rfl rfl ?_
  refine gS (gR ?_);refine ai ?_;refine gE (gS (gS (gR ?_)));refine ad ?_;refine aC rfl rfl rfl rfl (jk xG) ?_;refine gE ?_
  refine gC (fun hc=>?_) fun hc=>?_
  ·
   obtain rfl:a=none:=by simpa using hc
   have hx:f=[]:=by
     cases f with
     |nil=>rfl
     |cons r rs=>obtain ⟨b,o,e,_⟩:=Sl.isSome ha.at_ (by simp [cG]);cases e
   subst hx
   refine gS (gR ?_);refine ai ?_;refine gE ?_
   refine gT func28 fun w' hS=>?_
   exact ⟨hS.ext,eW.il⟩
  refine gK (gS (gR ?_))
  refine aa.u9 dP rfl rfl rfl xG hi (fun b=>?_)
  refine ad ?_
  by_cases hx:f.length=0
  · obtain rfl:f=[]:=List.eq_nil_of_length_eq_zero hx
    refine aa.v (ah.blt rfl rfl rfl (ox xG hi (Nat.le_refl 0)) rfl) ?_
    refine aa.v (ah.mR rfl rfl rfl rfl) (aa.ep (aa.ret Try.f28 func28 rfl (fun w' hS=>?_)))
    exact ⟨hS.ext,eW.mk (f:=[]) (q:=some b) (sp:=[]) (cap:=0) hS 0 rfl (fun e=>by cases e) rfl⟩
  refine aa.uK cG 2 (fun _=>rfl) (xs:=[]) (sp:=[]) f rfl rfl rfl rfl rfl xG hi hz hsz rfl (fun h=>by cases h) 0 rfl (fun w Y' hS=>(ha.a8 hS.ext).at_) rfl rfl (by omega) (by decide) (fun _=>eU) (by simp [maxLen];omega) (by simp [hby];omega) (fun b' sp' cap' hlen=>?_)
  rw [List.nil_append] at*
  refine ai ?_;refine gE ?_
  refine gT func28 fun w' hS=>?_
  exact ⟨hS.ext,eW.mk hS 0 (q:=some b') rfl (fun e=>by cases e) hlen⟩
theorem pb (n R:Nat) (hn:2≤n∧n≤3) (hR:R≤3) (w:World):Cn Try.prog 26 [.int .i64 n,.int .i64 R] w (fun v _=>v=.bool true):=by
 refine Cn.of func26 rfl rfl ?_
 refine gS (gR ?_);refine ai ?_;refine gE (gS (gR ?_));refine ad ?_
 refine aC rfl rfl rfl rfl (jm (v:=true) (by simp;omega)) ?_
 iterate 2 refine ad ?_
 refine aC rfl rfl rfl rfl (rR (v:=true) (by simp;omega)) ?_
 refine aV ?_
 iterate 2 refine ad ?_
 refine aC rfl rfl rfl rfl (jm (v:=true) (by simp)) ?_
 refine aV ?_
 iterate 2 refine ad ?_
 refine aC rfl rfl rfl rfl (rR (v:=true) (by simp;omega)) ?_
 refine aV ?_;refine ai ?_;refine gE ?_
 refine gT func26 fun w' hS=>?_
 exact ⟨hS.ext,rfl⟩
def cQ (bo bn bl br n R:Nat) (q:Option Nat) (cap:Nat) (outs:List CV) (sp:List Value) (H:Hl):Hl:=
 [(some bo,.cells #[aU q outs.length cap] 50 (0,0)),(q,ob CV.v 55 outs sp),(some bn,.cells #[.int .i64 n] 3 (0,0)),(some bl,.cells #[.func (.func 27) #[] #[ptr bo,ptr bn,ptr bl,ptr br]] 75 (0,0)),(some br,.cells #[.int .i64 R] 3 (0,0))]++H
theorem sH {bo bn bl br n R:Nat} {q:Option Nat} {cap:Nat} {outs:List CV} {sp:List Value} {H:Hl} {a b:Option Nat×Obj}:(a::b::cQ bo bn bl br n R q cap outs sp H).Perm (cQ bo bn bl br n R q cap outs sp (b::H)++[a]):=qj
theorem sG {bo bn bl br n R:Nat} {q:Option Nat} {cap:Nat} {outs:List CV} {sp:List Value} {H:Hl} {a b:Option Nat×Obj}:(b::a::cQ bo bn bl br n R q cap outs sp H).Perm (cQ bo bn bl br n R q cap outs sp (b::H)++[a]):=sD
structure jw (q:Option Nat) (cap:Nat) (outs:List CV) (sp:List Value) (H:Hl):Prop where
  nil:q=none→outs.length=0∧cap=0
  cap:(outs.map CV.v++sp).length=cap
  fA:∀c∈outs,c.In 78 H
theorem jw.len {q:Option Nat} {cap:Nat} {outs:List CV} {sp:List Value} {H:Hl} {z:List (List CD)} (_h:jw q cap outs sp H) (e:outs.map CV.f=z):outs.length=z.length:=by rw [←e,List.length_map]
def eC (bo bn bl br n R:Nat) (z:List (List CD)) (H:Hl) (h':Hl):Prop:=∃q' cap' outs' sp' H',h'=cQ bo bn bl br n R q' cap' outs' sp' H'∧jw q' cap' outs' sp' H'∧H⊆H'∧outs'.map CV.f=z
set_option maxRecDepth 8000 in
set_option maxHeartbeats 1000000 in
theorem pg (n R:Nat) (hn:n≤3) (hR:R≤3) (bo bn bl br:Nat):∀(M:Nat) (x:CV) (left:Nat) (w:World) (q:Option Nat) (cap:Nat) (outs:List CV) (sp:List Value) (H:Hl),x.f.length+M=n→left≤3→ln w (cQ bo bn bl br n R q cap outs sp H)→jw q cap outs sp H→x.In 78 H→outs.length+(aW n R M x.f left).length≤64→
    oS Try.prog 27 [x.v,.int .i64 left,ptr bo,ptr bn,ptr bl,ptr br] w (cQ bo bn bl br n R q cap outs sp H) (fun _ h'=>eC bo bn bl br n R (outs.map CV.f++aW n R M x.f left) H h'):=by
  obtain ⟨i2,hi2,hz2,hsz2,hby2⟩:=info_parts nR
  obtain ⟨i1,hi1,hz1,hsz1,hby1⟩:=info_parts rC
  have hpw:2^n≤8:=Nat.pow_le_pow_right (by omega) hn
  intro M
  induction M using Nat.strongRecOn with
  |_ M IH0=>
  intro x left w q cap outs sp H hxn hleft hh ho hxin hlim
  refine oS.of hh func27 rfl rfl ?_
  unfold cQ
  refine gS (gS (gR ?_));refine aj isAgg50 0 ?_;refine cq xV ?_;refine aL qz ?_;refine gE ?_
  refine gC (fun hc=>?_) fun hc=>?_
  ·
   exfalso;simp at hc;omega
  refine gK (gS (gS (gR ?_)));refine ad ?_;refine cq xG ?_;refine aj xl 2 ?_;refine aL dU ?_;refine gE ?_
  refine gC (fun hc=>?_) fun hc=>?_
  ·
   have hx:x.f.length=n:=by have h:(x.f.length:Int)=n:=(by simpa using hc);omega
   obtain rfl:M=0:=by omega
   refine gS (gR ?_);refine aj isAgg50 0 ?_;refine ad ?_
   refine aa.fR (c:=[_]) rfl rfl rfl rfl xV sizeOf55 zeroValue55 rfl rfl (fun b19=>?_)
   refine aa.iv CV.v (news:=[x]) (spn:=[]) (xs:=outs) (sp:=sp) (q:=q) rfl rfl rfl rfl rfl xV hi1 hz1 hsz1 rfl ho.nil 2 rfl 0 rfl ho.cap rfl (by decide) (fun _=>rfl) (by unfold maxLen;omega) (by rw [hby1];omega) (fun b' sp' cap' hlen=>?_)
   refine aa.st rfl rfl rfl rfl sizeOf50 rfl 1 rfl rfl ?_
   refine gE ?_
   refine gT func27 fun w' hS=>?_
   refine ⟨_,⟨some b',cap',outs++[x],sp',H,rfl,⟨(fun e=>by cases e),hlen,fun c hc=>?_⟩,fun _ h=>h,by simp [aW]⟩,hS.bR (.cons _ (List.Sublist.refl _))⟩
   rcases List.mem_append.1 hc with hc|hc
   · exact ho.fA c hc
   rw [List.mem_singleton.1 hc];exact hxin
  have hx:x.f.length≠n:=by have h:¬(x.f.length:Int)=n:=(by simpa using hc);omega
  obtain ⟨m,rfl⟩:∃m,M=m+1:=⟨M - 1,by omega⟩
  have IH:=IH0 m (by omega)
  rw [iy] at hlim
  rw [iy]
  have hlim0:outs.length+(aW n R m (x.f++[(0,0)]) left).length≤64:=by rw [List.length_append] at hlim;omega
  refine gK (gS ?_)
  refine aa.fg (α:={z:Option Nat×Nat×List CV×List Value×Hl // jw z.1 z.2.1 z.2.2.1 z.2.2.2.1 z.2.2.2.2∧H⊆z.2.2.2.2∧z.2.2.1.map CV.f=outs.map CV.f++aW n R m (x.f++[(0,0)]) left}) [] (fun _=>[(0,x.v),(1,.int .i64 left),(2,ptr bo),(3,ptr bn),(4,ptr bl),(5,ptr br)]) (fun z=>cQ bo bn bl br n R z.1.1 z.1.2.1 z.1.2.2.1 z.1.2.2.2.1 z.1.2.2.2.2) (fun z=>?_) (fun K=>?_)
  obtain ⟨⟨q1,cap1,outs1,sp1,H1⟩,ho1,hs1,hm1⟩:=z
  dsimp only at ho1 hs1 hm1⊢
  unfold cQ
  · -- what comes behind the region
   refine gE (gS (gS (gR ?_)));refine ad ?_;refine aL dU ?_;refine gE ?_
   refine gC (fun hc=>?_) fun hc=>?_
   ·
    have h0:left=0:=by simpa using hc
    refine gT func27 fun w' hS=>?_
    exact ⟨_,⟨q1,cap1,outs1,sp1,H1,rfl,ho1,hs1,by rw [hm1,if_pos h0,List.append_nil]⟩,hS⟩
   have h0:left≠0:=by simpa using hc
   rw [if_neg h0] at hlim⊢
   have hxin1:=hxin.mono hs1
   refine gK (gS (gR ?_));refine ai ?_;refine gE (gB ?_)
   refine aa.loop (σ:=Nat×Option Nat×Nat×List CV×List Value×Hl) (fun z=>[(0,x.v),(1,.int .i64 left),(2,ptr bo),(3,ptr bn),(4,ptr bl),(5,ptr br),(8,.int .i64 ((z.1+1:Nat):Int))])
     (fun z=>cQ bo bn bl br n R z.2.1 z.2.2.1 z.2.2.2.1 z.2.2.2.2.1 z.2.2.2.2.2)
     (fun z=>z.1≤R∧jw z.2.1 z.2.2.1 z.2.2.2.1 z.2.2.2.2.1 z.2.2.2.2.2∧H1⊆z.2.2.2.2.2∧z.2.2.2.1.map CV.f=outs1.map CV.f++(kj n x.f.length z.1).flatMap (fun c=>aW n R m (x.f++[c]) (left - 1)))
     (fun z=>R - z.1) (0,q1,cap1,outs1,sp1,H1) ⟨Nat.zero_le _,ho1,fun _ h=>h,by simp [kj]⟩ ⟨rfl,rfl,rfl,rfl,rfl,rfl,rfl,trivial⟩ (List.Sublist.refl _) (fun z hI IH2=>?_)
   obtain ⟨r,q2,cap2,outs2,sp2,H2⟩:=z
   obtain ⟨hr,ho2,hs2,hm2⟩:=hI
   dsimp only at hr ho2 hs2 hm2 IH2⊢
   unfold cQ
   refine gS (gS (gR ?_));refine ad ?_;refine aj xl 4 ?_;refine aL tR ?_;refine gE ?_
   refine gC (fun hc=>?_) fun hc=>?_
   ·
    have hr1:r<R:=by have h:=of_decide_eq_true hc;omega
    refine gK (gS (gB (gS (gR ?_))));refine aj xl 2 ?_
    refine aC rfl rfl rfl rfl (iP (x:=1) (j:=n) rfl (by omega) (by omega)) ?_
    refine ad ?_;refine gE (gB ?_)
    refine aa.loop (σ:=Nat×Option Nat×Nat×List CV×List Value×Hl) (fun z=>[(0,x.v),(1,.int .i64 left),(2,ptr bo),(3,ptr bn),(4,ptr bl),(5,ptr br),(8,.int .i64 ((r+1:Nat):Int)),(37,.int .i64 ((1*2^n:Nat):Int)),(38,.int .i64 z.1)])
      (fun z=>cQ bo bn bl br n R z.2.1 z.2.2.1 z.2.2.2.1 z.2.2.2.2.1 z.2.2.2.2.2)
      (fun z=>z.1≤2^n∧jw z.2.1 z.2.2.1 z.2.2.2.1 z.2.2.2.2.1 z.2.2.2.2.2∧H2⊆z.2.2.2.2.2∧z.2.2.2.1.map CV.f=outs1.map CV.f++(kj n x.f.length r++fI x.f.length (r+1) z.1).flatMap (fun c=>aW n R m (x.f++[c]) (left - 1)))
      (fun z=>2^n - z.1) (0,q2,cap2,outs2,sp2,H2) ⟨Nat.zero_le _,ho2,fun _ h=>h,by rw [hm2];simp [fI]⟩ ⟨rfl,rfl,rfl,rfl,rfl,rfl,rfl,rfl,rfl,trivial⟩ (List.Sublist.refl _) (fun z hI IH3=>?_)
    obtain ⟨t,q3,cap3,outs3,sp3,H3⟩:=z
    obtain ⟨ht,ho3,hs3,hm3⟩:=hI
    dsimp only at ht ho3 hs3 hm3 IH3⊢
    unfold cQ
    refine gS (gR ?_);refine aL db ?_;refine gE (gS ?_)
    refine gC (fun hc=>?_) fun hc=>?_
    ·
     have ht1:t<2^n:=by have h:=of_decide_eq_true hc;omega
     have hrow:=iA (k:=x.f.length) (r:=r+1) (t:=t)
     refine gK (gS (gB (gS (gR ?_))));refine ad ?_;refine ai ?_;refine gE (gS (gR ?_))
     iterate 2 refine ad ?_
     refine cq xG ?_
     refine aC rfl rfl rfl rfl (ke (j:=x.f.length) rfl (by omega) (by omega)) ?_
     refine aC rfl rfl rfl rfl (jo (Nat.lt_of_le_of_lt (Nat.div_le_self _ _) (by omega))) ?_;refine aL dU ?_;refine gE ?_
     refine gC (fun hc=>?_) fun hc=>?_
     ·
      have hb:t / 2^x.f.length%2=0:=by have h:(((t / 2^x.f.length%2:Nat):Int)==0)=true:=hc;have:=eq_of_beq h;omega
      rw [if_pos hb] at hrow
      have hlim3:outs3.length+(aW n R m (x.f++[(r+1,t)]) (left - 1)).length≤64:=by
        have e:=ho3.len hm3
        have e1:=ho1.len hm1
        have hp:=nY (g:=fun c=>aW n R m (x.f++[c]) (left - 1)) (pw (n:=n) (k:=x.f.length) hr1 (show t+1≤2^n by omega))
        rw [hrow,←List.append_assoc,List.flatMap_append (xs:=kj n x.f.length r++fI x.f.length (r+1) t)] at hp
        simp only [List.length_append,List.flatMap_cons,List.flatMap_nil,List.append_nil,List.length_map] at e e1 hp hlim
        omega
      have hxin3:=(hxin1.mono hs2).mono hs3
      refine aa.fg (α:={z:Option Nat×Nat×List CV×List Value×Hl // jw z.1 z.2.1 z.2.2.1 z.2.2.2.1 z.2.2.2.2∧H3⊆z.2.2.2.2∧z.2.2.1.map CV.f=outs3.map CV.f++aW n R m (x.f++[(r+1,t)]) (left - 1)}) [] (fun _=>[(0,x.v),(1,.int .i64 left),(2,ptr bo),(3,ptr bn),(4,ptr bl),(5,ptr br),(8,.int .i64 ((r+1:Nat):Int)),(37,.int .i64 ((1*2^n:Nat):Int)),(38,.int .i64 t)]) (fun z=>cQ bo bn bl br n R z.1.1 z.1.2.1 z.1.2.2.1 z.1.2.2.2.1 z.1.2.2.2.2) (fun z=>?_) (fun K=>?_)
      obtain ⟨⟨q4,cap4,outs4,sp4,H4⟩,ho4,hs4,hm4⟩:=z
      dsimp only at ho4 hs4 hm4⊢
      unfold cQ
      · -- what comes behind the region
       refine gE (cu (gR ?_));refine aC rfl rfl rfl rfl (aK (by omega)) ?_;refine ad ?_;refine gE ?_
       exact IH3 (t+1,q4,cap4,outs4,sp4,H4) _ _ ⟨by omega,ho4,fun _ h=>hs4 (hs3 h),by dsimp only;rw [hm4,hm3,hrow,←List.append_assoc (kj n x.f.length r),List.flatMap_append (xs:=kj n x.f.length r++fI x.f.length (r+1) t)];simp⟩ (by dsimp only;omega) ⟨rfl,rfl,rfl,rfl,rfl,rfl,rfl,rfl,rfl,trivial⟩ (List.Sublist.refl _)
      · -- the region
       refine aa.lS 12 (([(some bl,.cells #[.func (.func 27) #[] #[ptr bo,ptr bn,ptr bl,ptr br]] 75 (0,0))])) mixed ?_
       refine cV 0 (ah.nK rfl rfl rfl rfl isAgg75 0 rfl rfl) ?_
       refine cV 1 (ah.mv rfl rfl rfl rfl) ?_
       refine cV 3 (ah.mv rfl rfl rfl rfl) ?_
       refine cV 4 (ah.mv rfl rfl rfl rfl) ?_
       refine cV 5 (ah.eM rfl rfl rfl rfl (bd78 (c:=[_,_]) rfl)) ?_
       refine cV 8 (ah.mv rfl rfl rfl rfl) ?_
       refine cV 9 (ah.bin rfl rfl rfl rfl (lW (c:=((left - 1:Nat):Int)) (by omega) (by omega)) rfl) ?_
       refine cE.two (i:=2) (j:=6) rfl (dX.call (fun w v w'=>eW 78 w w' v x.f) rfl rfl rfl rfl rfl (fun _ _=>call28 _ _) (fun w Y' hS=>fu x.a x.c x.f w (CV.In.at (hxin3.mono (fun z hz=>by simp [hz])) hS) (by omega)) (fun v w w' Y' hS he hoc=>?_)) rfl (dX.fR (c:=[_,_]) rfl rfl rfl rfl xG sizeOf78 zeroValue78 rfl rfl (fun bz=>⟨sL,?_⟩)) rfl
       · -- operation 2 next
        obtain ⟨qc,cc,sc,rfl,hqc,hcc,hS'⟩:=jV hS he hoc;refine ⟨_,hS',sL,?_⟩
        refine cE.one (i:=6) rfl (dX.fR (c:=[_,_]) rfl rfl rfl rfl xG sizeOf78 zeroValue78 rfl rfl (fun b53=>⟨sL,?_⟩)) rfl
        refine cE.one (i:=7) rfl (dX.app 2 (xs:=x.f.flatMap cG) (sp:=sc) (nx:=x.f.length) (q:=qc) (news:=cG (r+1,t)) (spn:=[]) rfl rfl rfl rfl rfl xG hi2 hz2 hsz2 rfl hqc 1 rfl 0 rfl iK hcc rfl (by decide) eU (by unfold maxLen;omega) (by rw [hby2];omega) (fun b' sp' cap' hlen=>⟨sL,?_⟩)) rfl
        rw [fQ] at hlen⊢
        refine cE.fw (hC:=cQ bo bn bl br n R q3 cap3 outs3 sp3 ((some b',eP 78 (x.f++[(r+1,t)]) sp')::H3)) (hF:=[(some b53,eP 78 [(r+1,t)] [])]) (fs:=[]) (cs:=[ptr bo,ptr bn,ptr bl,ptr br]) sH (fun _ _ h'=>eC bo bn bl br n R (outs3.map CV.f++aW n R m (x.f++[(r+1,t)]) (left - 1)) ((some b',eP 78 (x.f++[(r+1,t)]) sp')::H3) h') rfl rfl rfl rfl rfl rfl (fun _ _=>call27 _ _) (fun w Y' hS=>?_) (fun w v h' hR=>?_)
        · have e1:(aU (some b') (x.f.length+1) cap':Value)=CV.v ⟨some ⟨b',0,none⟩,cap',x.f++[(r+1,t)]⟩:=by simp [aU,CV.v]
          rw [e1]
          exact IH ⟨some ⟨b',0,none⟩,cap',x.f++[(r+1,t)]⟩ (left - 1) w q3 cap3 outs3 sp3 _ (by simp;omega) (by omega) (hS.bR (List.sublist_append_left _ _)).has ⟨ho3.nil,ho3.cap,fun z hz=>(ho3.fA z hz).mono (List.subset_cons_self _ _)⟩ (.inr ⟨b',sp',rfl,List.mem_cons_self ..⟩) hlim3
        obtain ⟨q',cap2,outs',sp2,H',rfl,ho',hsub',hm'⟩:=hR
        refine ⟨_,List.Perm.refl _,.cons _ (.cons _ (.cons _ (.cons_cons _ (List.nil_sublist _)))),?_⟩
        refine cE.done rfl ?_
        exact K ⟨(q',cap2,outs',sp2,H'),ho',fun _ h=>hsub' (List.mem_cons_of_mem _ h),hm'⟩ _ _ sF (fun _ _ hS=>hS.bR (List.sublist_append_left _ _))
       · -- operation 6 next
        refine cE.one (i:=2) rfl (dX.call (fun w v w'=>eW 78 w w' v x.f) rfl rfl rfl rfl rfl (fun _ _=>call28 _ _) (fun w Y' hS=>fu x.a x.c x.f w (CV.In.at (hxin3.mono (fun z hz=>by simp [hz])) hS) (by omega)) (fun v w w' Y' hS he hoc=>?_)) rfl
        obtain ⟨qc,cc,sc,rfl,hqc,hcc,hS'⟩:=jV hS he hoc
        refine ⟨_,hS',sL,?_⟩
        refine cE.one (i:=7) rfl (dX.app 2 (xs:=x.f.flatMap cG) (sp:=sc) (nx:=x.f.length) (q:=qc) (news:=cG (r+1,t)) (spn:=[]) rfl rfl rfl rfl rfl xG hi2 hz2 hsz2 rfl hqc 0 rfl 1 rfl iK hcc rfl (by decide) eU (by unfold maxLen;omega) (by rw [hby2];omega) (fun b' sp' cap' hlen=>⟨sL,?_⟩)) rfl
        rw [fQ] at hlen⊢
        refine cE.fw (hC:=cQ bo bn bl br n R q3 cap3 outs3 sp3 ((some b',eP 78 (x.f++[(r+1,t)]) sp')::H3)) (hF:=[(some bz,eP 78 [(r+1,t)] [])]) (fs:=[]) (cs:=[ptr bo,ptr bn,ptr bl,ptr br]) sG (fun _ _ h'=>eC bo bn bl br n R (outs3.map CV.f++aW n R m (x.f++[(r+1,t)]) (left - 1)) ((some b',eP 78 (x.f++[(r+1,t)]) sp')::H3) h') rfl rfl rfl rfl rfl rfl (fun _ _=>call27 _ _) (fun w Y' hS=>?_) (fun w v h' hR=>?_)
        · have e1:(aU (some b') (x.f.length+1) cap':Value)=CV.v ⟨some ⟨b',0,none⟩,cap',x.f++[(r+1,t)]⟩:=by simp [aU,CV.v]
          rw [e1]
          exact IH ⟨some ⟨b',0,none⟩,cap',x.f++[(r+1,t)]⟩ (left - 1) w q3 cap3 outs3 sp3 _ (by simp;omega) (by omega) (hS.bR (List.sublist_append_left _ _)).has ⟨ho3.nil,ho3.cap,fun z hz=>(ho3.fA z hz).mono (List.subset_cons_self _ _)⟩ (.inr ⟨b',sp',rfl,List.mem_cons_self ..⟩) hlim3
        obtain ⟨q',cap2,outs',sp2,H',rfl,ho',hsub',hm'⟩:=hR
        refine ⟨_,List.Perm.refl _,.cons _ (.cons _ (.cons _ (.cons_cons _ (List.nil_sublist _)))),?_⟩
        refine cE.done rfl ?_
        exact K ⟨(q',cap2,outs',sp2,H'),ho',fun _ h=>hsub' (List.mem_cons_of_mem _ h),hm'⟩ _ _ sF (fun _ _ hS=>hS.bR (List.sublist_append_left _ _))
     have hb:¬t / 2^x.f.length%2=0:=by have h:(((t / 2^x.f.length%2:Nat):Int)==0)=false:=hc;intro e;rw [e] at h;cases h
     rw [if_neg hb] at hrow
     refine gK (cu (gR ?_));refine aC rfl rfl rfl rfl (aK (by omega)) ?_;refine ad ?_;refine gE ?_
     exact IH3 (t+1,q3,cap3,outs3,sp3,H3) _ _ ⟨by omega,ho3,hs3,by dsimp only;rw [hm3,hrow]⟩ (by dsimp only;omega) ⟨rfl,rfl,rfl,rfl,rfl,rfl,rfl,rfl,rfl,trivial⟩ (List.Sublist.refl _)
    have ht1:¬t<2^n:=by have h:=of_decide_eq_false hc;omega
    obtain rfl:t=2^n:=by omega
    refine aa.exit rfl (cu (gR ?_))
    refine ad ?_;refine aC rfl rfl rfl rfl (aK (by omega)) ?_;refine ai ?_;refine gE ?_
    exact IH2 (r+1,q3,cap3,outs3,sp3,H3) _ _ ⟨hr1,ho3,fun _ h=>hs3 (hs2 h),by dsimp only;rw [hm3,gO]⟩ (by dsimp only;omega) ⟨rfl,rfl,rfl,rfl,rfl,rfl,rfl,trivial⟩ (List.Sublist.refl _)
   have hr1:¬r<R:=by have h:=of_decide_eq_false hc;omega
   obtain rfl:r=R:=by omega
   refine aa.exit rfl ?_
   refine aa.fin Try.f27 func27 rfl (fun w' hS=>?_)
   exact ⟨_,⟨q2,cap2,outs2,sp2,H2,rfl,ho2,fun _ h=>hs2 (hs1 h),by rw [hm2,hm1,List.append_assoc]⟩,hS⟩
  · -- the region
   refine aa.lS 9 (([(some bl,.cells #[.func (.func 27) #[] #[ptr bo,ptr bn,ptr bl,ptr br]] 75 (0,0))])) mixed ?_
   refine cV 0 (ah.nK rfl rfl rfl rfl isAgg75 0 rfl rfl) ?_
   refine cV 1 (ah.mv rfl rfl rfl rfl) ?_
   refine cV 3 (ah.eM rfl rfl rfl rfl (bd78 (c:=[_,_]) rfl)) ?_
   refine cV 6 (ah.mv rfl rfl rfl rfl) ?_
   refine cE.two (i:=2) (j:=4) rfl (dX.call (fun w v w'=>eW 78 w w' v x.f) rfl rfl rfl rfl rfl (fun _ _=>call28 _ _) (fun w Y' hS=>fu x.a x.c x.f w (CV.In.at (hxin.mono (fun z hz=>by simp [hz])) hS) (by omega)) (fun v w w' Y' hS he hoc=>?_)) rfl (dX.fR (c:=[_,_]) rfl rfl rfl rfl xG sizeOf78 zeroValue78 rfl rfl (fun bz=>⟨sL,?_⟩)) rfl
   · -- operation 2 next
    obtain ⟨qc,cc,sc,rfl,hqc,hcc,hS'⟩:=jV hS he hoc;refine ⟨_,hS',sL,?_⟩
    refine cE.one (i:=4) rfl (dX.fR (c:=[_,_]) rfl rfl rfl rfl xG sizeOf78 zeroValue78 rfl rfl (fun b25=>⟨sL,?_⟩)) rfl
    refine cE.one (i:=5) rfl (dX.app 2 (xs:=x.f.flatMap cG) (sp:=sc) (nx:=x.f.length) (q:=qc) (news:=cG (0,0)) (spn:=[]) rfl rfl rfl rfl rfl xG hi2 hz2 hsz2 rfl hqc 1 rfl 0 rfl iK hcc rfl (by decide) eU (by unfold maxLen;omega) (by rw [hby2];omega) (fun b' sp' cap' hlen=>⟨sL,?_⟩)) rfl
    rw [fQ] at hlen⊢
    refine cE.fw (hC:=cQ bo bn bl br n R q cap outs sp ((some b',eP 78 (x.f++[(0,0)]) sp')::H)) (hF:=[(some b25,eP 78 [(0,0)] [])]) (fs:=[]) (cs:=[ptr bo,ptr bn,ptr bl,ptr br]) sH (fun _ _ h'=>eC bo bn bl br n R (outs.map CV.f++aW n R m (x.f++[(0,0)]) left) ((some b',eP 78 (x.f++[(0,0)]) sp')::H) h') rfl rfl rfl rfl rfl rfl (fun _ _=>call27 _ _) (fun w Y' hS=>?_) (fun w v h' hR=>?_)
    · have e1:(aU (some b') (x.f.length+1) cap':Value)=CV.v ⟨some ⟨b',0,none⟩,cap',x.f++[(0,0)]⟩:=by simp [aU,CV.v]
      rw [e1]
      exact IH ⟨some ⟨b',0,none⟩,cap',x.f++[(0,0)]⟩ left w q cap outs sp _ (by simp;omega) (by omega) (hS.bR (List.sublist_append_left _ _)).has ⟨ho.nil,ho.cap,fun z hz=>(ho.fA z hz).mono (List.subset_cons_self _ _)⟩ (.inr ⟨b',sp',rfl,List.mem_cons_self ..⟩) hlim0
    obtain ⟨q',cap2,outs',sp2,H',rfl,ho',hsub',hm'⟩:=hR
    refine ⟨_,List.Perm.refl _,.cons _ (.cons _ (.cons _ (.cons_cons _ (List.nil_sublist _)))),?_⟩
    refine cE.done rfl ?_
    exact K ⟨(q',cap2,outs',sp2,H'),ho',fun _ h=>hsub' (List.mem_cons_of_mem _ h),hm'⟩ _ _ sF (fun _ _ hS=>hS.bR (List.sublist_append_left _ _))
   · -- operation 4 next
    refine cE.one (i:=2) rfl (dX.call (fun w v w'=>eW 78 w w' v x.f) rfl rfl rfl rfl rfl (fun _ _=>call28 _ _) (fun w Y' hS=>fu x.a x.c x.f w (CV.In.at (hxin.mono (fun z hz=>by simp [hz])) hS) (by omega)) (fun v w w' Y' hS he hoc=>?_)) rfl
    obtain ⟨qc,cc,sc,rfl,hqc,hcc,hS'⟩:=jV hS he hoc
    refine ⟨_,hS',sL,?_⟩
    refine cE.one (i:=5) rfl (dX.app 2 (xs:=x.f.flatMap cG) (sp:=sc) (nx:=x.f.length) (q:=qc) (news:=cG (0,0)) (spn:=[]) rfl rfl rfl rfl rfl xG hi2 hz2 hsz2 rfl hqc 0 rfl 1 rfl iK hcc rfl (by decide) eU (by unfold maxLen;omega) (by rw [hby2];omega) (fun b' sp' cap' hlen=>⟨sL,?_⟩)) rfl
    rw [fQ] at hlen⊢
    refine cE.fw (hC:=cQ bo bn bl br n R q cap outs sp ((some b',eP 78 (x.f++[(0,0)]) sp')::H)) (hF:=[(some bz,eP 78 [(0,0)] [])]) (fs:=[]) (cs:=[ptr bo,ptr bn,ptr bl,ptr br]) sG (fun _ _ h'=>eC bo bn bl br n R (outs.map CV.f++aW n R m (x.f++[(0,0)]) left) ((some b',eP 78 (x.f++[(0,0)]) sp')::H) h') rfl rfl rfl rfl rfl rfl (fun _ _=>call27 _ _) (fun w Y' hS=>?_) (fun w v h' hR=>?_)
    · have e1:(aU (some b') (x.f.length+1) cap':Value)=CV.v ⟨some ⟨b',0,none⟩,cap',x.f++[(0,0)]⟩:=by simp [aU,CV.v]
      rw [e1]
      exact IH ⟨some ⟨b',0,none⟩,cap',x.f++[(0,0)]⟩ left w q cap outs sp _ (by simp;omega) (by omega) (hS.bR (List.sublist_append_left _ _)).has ⟨ho.nil,ho.cap,fun z hz=>(ho.fA z hz).mono (List.subset_cons_self _ _)⟩ (.inr ⟨b',sp',rfl,List.mem_cons_self ..⟩) hlim0
    obtain ⟨q',cap2,outs',sp2,H',rfl,ho',hsub',hm'⟩:=hR
    refine ⟨_,List.Perm.refl _,.cons _ (.cons _ (.cons _ (.cons_cons _ (List.nil_sublist _)))),?_⟩
    refine cE.done rfl ?_
    exact K ⟨(q',cap2,outs',sp2,H'),ho',fun _ h=>hsub' (List.mem_cons_of_mem _ h),hm'⟩ _ _ sF (fun _ _ hS=>hS.bR (List.sublist_append_left _ _))
end Go.Proofs.Ytkpknmgofmohbaa
namespace Go.Proofs.Ytkpknmgofmohbaa
open Go.RowKit Go.Proofs.Wit Try
def tF (w w':World) (v:Value) (z:List (List CD)):Prop:=∃q cap outs sp H,v=aU q outs.length cap∧jw q cap outs sp H∧outs.map CV.f=z∧c3 w w' ((q,ob CV.v 55 outs sp)::H)
set_option maxRecDepth 8000 in
theorem kE (n F R:Nat) (hn:2≤n∧n≤3) (hF:F≤n) (hR:R≤3) (hlim:(aW n R n [] F).length≤64) (w:World):Cn Try.prog 13 [.int .i64 n,.int .i64 F,.int .i64 R] w (fun v w'=>∃u,v=.tuple #[u,.int .i64 0]∧tF w w' u (aW n R n [] F)):=by
  refine Cn.of func13 rfl rfl ?_
  refine gS (gR ?_)
  refine aa.bx rfl rfl rfl rfl (fun b3=>?_)
  refine aa.bx rfl rfl rfl rfl (fun b5=>?_)
  iterate 2 refine ai ?_
  refine gE (gS (gS (gR ?_)));refine aj xl 1 ?_;refine aj xl 0 ?_
  refine gP rfl rfl rfl rfl rfl call26 (fun w _ hS=>(by exact pb n R hn hR w)) ?_
  refine bP aH ?_
  iterate 2 refine ad ?_
  refine aC rfl rfl rfl rfl (oB (v:=false) (by simp)) ?_
  refine aN ?_
  iterate 2 refine ad ?_
  refine aj xl 1 ?_
  refine aC rfl rfl rfl rfl (kf (v:=false) (by simp;omega)) ?_
  refine aN ?_;refine gE (aa.aP rfl (gK (gS (gR ?_))))
  refine aa.dc rfl rfl rfl (fun _=>zeroValue50 _) (fun b8=>?_)
  refine gE (gS (gR ?_))
  refine aa.dc rfl rfl rfl (fun _=>zeroValue75 _) (fun b9=>?_)
  refine gE (gS (gR ?_))
  refine aa.v (ah.eg rfl rfl rfl rfl rfl) ?_
  refine aa.st rfl rfl rfl rfl sizeOf75 rfl 0 rfl rfl ?_
  refine gE (gS (gR ?_));refine aj isAgg75 0 ?_;refine ad ?_
  refine aa.cw (ob CV.v 55 [] []) ?_
  refine aa.pick (pre:=[_,_,_,_,_]) (pre':=cQ b8 b3 b9 b5 n R none 0 [] [] []++[]) [2,0,4,1,3] (by decide) rfl ?_
  refine aa.fw (h:=cQ b8 b3 b9 b5 n R none 0 [] [] []) (hF:=[]) (fs:=[]) (cs:=[ptr b8,ptr b3,ptr b9,ptr b5]) (fun _ _ h'=>eC b8 b3 b9 b5 n R (aW n R n [] F) [] h') rfl rfl rfl rfl rfl (fun _ _=>call27 _ _) (fun w1 Y' hS=>?_) (fun w1 v h1 hR=>?_)
  · have hS1:=hS.bR (List.sublist_append_left (cQ b8 b3 b9 b5 n R none 0 [] [] []) _)
    exact pg n R hn.2 hR b8 b3 b9 b5 n ⟨none,0,[]⟩ F w1 none 0 [] [] [] (by simp) (by omega) hS1.has ⟨fun _=>⟨rfl,rfl⟩,rfl,fun _ h=>by cases h⟩ (.inl ⟨rfl,rfl⟩) (by simpa using hlim)
  obtain ⟨q1,cap1,outs1,sp1,H1,rfl,ho1,_,hm1⟩:=hR
  have hl1:outs1.length≤64:=by rw [ho1.len hm1];exact hlim
  unfold cQ
  refine gE (gS (gS (gR ?_)));refine aj isAgg50 0 ?_;refine cq xV ?_;refine aL qz ?_;refine gE ?_
  refine gC (fun hc=>?_) fun hc=>?_
  ·
   exfalso;have h:=of_decide_eq_true hc;omega
  refine gK (gS (gR ?_));refine aj isAgg50 0 ?_
  iterate 2 refine ai ?_
  refine gE ?_
  refine gT func13 fun w' hS=>?_
  exact ⟨hS.ext,_,rfl,q1,cap1,outs1,sp1,H1,rfl,ho1,hm1,c3.of (hS.bR (.cons _ (.cons_cons _ (.cons _ (.cons _ (.cons _ (by show List.Sublist H1 (H1++[]);rw [List.append_nil];exact List.Sublist.refl _)))))))⟩
end Go.Proofs.Ytkpknmgofmohbaa
namespace Go.Proofs.Ytkpknmgofmohbaa
open Go.RowKit Go.Proofs.Wit Try
theorem jd:(Try.prog.info? 3).map (fun i=>(i.zero,i.size,i.bytes))=some (some (NI 0),1,8):=by kernel_rfl
theorem rz:(Try.prog.info? 31).map (fun i=>(i.zero,i.size,i.bytes))=some (some (.slice none 0 0),1,24):=by kernel_rfl
theorem rv:(Try.prog.info? 34).map (fun i=>(i.zero,i.size,i.bytes))=some (some (U 0#64),1,8):=by kernel_rfl
theorem mG (a:Option Addr) (ca:Nat) (xs:List Nat) (w:World) (ha:Sl w a (xs.map NI)) (h0:0<xs.length) (hl:xs.length≤1000):
    Cn Try.prog 31 [.slice a xs.length ca] w (fun v w'=>lk NI 3 w w' v xs):=by
  obtain ⟨i0,hi,hz,hsz,hby⟩:=info_parts jd
  refine Cn.of func31 rfl rfl ?_
  refine gS (gR ?_);refine ai ?_;refine gE (gS (gS (gR ?_)));refine ad ?_;refine aC rfl rfl rfl rfl (jk xy) ?_;refine gE ?_
  refine gC (fun hc=>?_) fun hc=>?_
  ·
   obtain rfl:a=none:=by simpa using hc
   obtain ⟨b,o,e,_⟩:=Sl.isSome ha (by simpa using h0)
   cases e
  refine gK (gS (gR ?_))
  refine aa.u9 NI rfl rfl rfl xy hi (fun b=>?_)
  refine ad ?_
  refine aa.uJ NI xs rfl rfl rfl rfl rfl xy hi hz hsz rfl (fun h=>by cases h) 0 rfl (fun w Y' hS=>Sl.ex ha hS.ext (by simp)) rfl rfl (by omega) (fun _=>rfl) (by simp [maxLen];omega) (by simp [hby];omega) (fun b' sp' cap' hlen=>?_)
  rw [List.nil_append] at*
  refine ai ?_;refine gE ?_
  refine gT func31 fun w' hS=>?_
  exact ⟨hS.ext,lk.mk hS 0 (q:=some b') rfl rfl (fun e=>by cases e) hlen⟩
theorem oz {a:Nat}:((a:Int)==1)=(a==1):=by rw [Bool.eq_iff_iff,beq_iff_eq,beq_iff_eq];omega
theorem k7 {cs:List CD} {i:Nat} (hi:i<cs.length):jj cs i=cs[i]:=by simp [jj,List.getD_eq_getElem?_getD,hi]
set_option maxRecDepth 4000 in
theorem kQ (b:Nat) (a:Option Addr) (ca:Nat) (cs:List CD) (i t:Nat) (w:World) (hb:w.heap[b]?=some (.cells #[.slice a cs.length ca] 55 (0,0))) (ha:CA w a cs) (hi:i<cs.length):
    Cn Try.prog 30 [.int .i64 i,.int .i64 t,ptr b] w (fun v _=>v=.bool (gn (jj cs i) t)):=by
  have HB:∀{w':World} {j:Nat} {u:Value},Ex [] w w'→(#[.slice a cs.length ca]:Array Value)[j]?=some u→w'.cell? ⟨b,j,none⟩=some u:=fun e h=>Ex.cell e hb h
  refine Cn.of func30 rfl rfl ?_
  refine gS (gR ?_);refine ai ?_;refine gE (gS (gR ?_))
  refine aa.v (ah.ld (p:=⟨b,0,none⟩) rfl rfl rfl rfl isAgg55 (fun w _ hS=>HB hS.ext rfl)) ?_
  refine ad ?_
  refine aa.v (ah.fo rfl rfl rfl rfl rfl xG sizeOf78 ⟨_,(ha).at_⟩ (aO (enc:=cG) (sz:=2) (fun _=>rfl)) (by decide) (i) ⟨rfl,hi⟩) ?_
  refine aa.v (ah.jg rfl rfl rfl rfl underlying78 rfl xk ((i)*2+0) rfl) ?_
  refine aa.v (ah.ld rfl rfl rfl rfl xl (fun w _ hS=>Sl.jX (enc:=cG) (sz:=2) ((ha).a8 hS.ext).at_ (fun _=>rfl) hi rfl)) ?_
  refine aL eV ?_;refine ad ?_
  refine cM 12 (fun hc=>?_) fun hc=>?_
  ·
   have h0:(cs[i].1==0)=false:=by
     have h:((cs[i].1:Int) !=0)=true:=hc
     cases e:cs[i].1==0 with
     |false=>rfl
     |true=>rw [eq_of_beq e] at h;cases h
   refine aa.v (ah.ld (p:=⟨b,0,none⟩) rfl rfl rfl rfl isAgg55 (fun w _ hS=>HB hS.ext rfl)) ?_
   refine ad ?_
   refine aa.v (ah.fo rfl rfl rfl rfl rfl xG sizeOf78 ⟨_,(ha).at_⟩ (aO (enc:=cG) (sz:=2) (fun _=>rfl)) (by decide) (i) ⟨rfl,hi⟩) ?_
   refine aa.v (ah.jg rfl rfl rfl rfl underlying78 rfl xk ((i)*2+0) rfl) ?_
   refine aa.v (ah.ld rfl rfl rfl rfl xl (fun w _ hS=>Sl.jX (enc:=cG) (sz:=2) ((ha).a8 hS.ext).at_ (fun _=>rfl) hi rfl)) ?_
   refine ad ?_;refine aL tR ?_;refine aV ?_;refine ai ?_;refine gE ?_
   refine gT func30 fun w' hS=>?_
   exact ⟨hS.ext,by rw [k7 hi,gn,h0];simp [eF]⟩
  have h0:(cs[i].1==0)=true:=by
    have h:((cs[i].1:Int) !=0)=false:=hc
    have:cs[i].1=0:=by simpa using h
    rw [this];rfl
  iterate 7 refine ba ?_
  refine aN ?_;refine ai ?_;refine gE ?_
  refine gT func30 fun w' hS=>?_
  exact ⟨hS.ext,by rw [k7 hi,gn,h0];simp [eF]⟩
set_option maxRecDepth 8000 in
set_option maxHeartbeats 1000000 in
theorem pL (n R x:Nat) (hn:2≤n∧n≤3) (hR:R≤3) (hx:x<8) (A:Option Addr) (cA:Nat) (cs:List CD) (hcl:cs.length=n) (hcb:∀c∈cs,c.2<8) (w:World) (hA:CA w A cs):
    Cn Try.prog 16 [.int .i64 n,.int .i64 R,.int .i64 x,.slice A cs.length cA] w (fun v w'=>∃(r:RV) (H:Hl),v=.agg (RV.cells r).toArray∧r.d=nh n x cs (R+1)∧c3 w w' H∧r.In 31 3 34 H):=by
  obtain ⟨i0,hi0,hz0,hsz0,hby0⟩:=info_parts jd
  obtain ⟨i1,hi1,hz1,hsz1,hby1⟩:=info_parts rz
  obtain ⟨i2,hi2,hz2,hsz2,hby2⟩:=info_parts rv
  have hpw:∀k,k≤3→2^k≤8:=fun k h=>Nat.pow_le_pow_right (by omega) h
  refine Cn.of func16 rfl rfl ?_
  refine gS (gR ?_)
  refine aa.bx rfl rfl rfl rfl (fun b7=>?_)
  refine aa.dc rfl rfl rfl (fun _=>zeroValue38 _) (fun b8=>?_)
  refine gE (gS (gR ?_));refine ai ?_;refine gE (gS (gS (gR ?_)))
  iterate 2 refine ad ?_
  refine gE (gB ?_)
  refine aa.loop (σ:=Nat) (fun k=>[(0,.int .i64 n),(1,.int .i64 R),(2,.int .i64 x),(7,ptr b7),(8,ptr b8),(9,NI (3^k)),(25,.int .i64 n),(26,.int .i64 k)]) (fun _=>[(some b8,.cells #[.slice none 0 0,.slice none 0 0] 38 (0,0)),(some b7,.cells #[.slice A cs.length cA] 55 (0,0))])
    (fun k=>k≤n) (fun k=>n - k) 0 (Nat.zero_le _) ⟨rfl,rfl,rfl,rfl,rfl,rfl,rfl,rfl,trivial⟩ (List.Sublist.refl _) (fun k hk IH=>?_)
  refine gS (gR ?_);refine aL db ?_;refine gE (gS ?_)
  refine gC (fun hc=>?_) fun hc=>?_
  ·
   have hlt:k<n:=by have h:=of_decide_eq_true hc;omega
   have h3:=nr (show k+1≤3 by omega)
   have e3:3^(k+1)=3^k*3:=Nat.pow_succ ..
   refine gK (gS (gB (gR ?_)));refine ad ?_
   refine aC rfl rfl rfl rfl (gg (a:=((3^k:Nat):Int)) (c:=((3^(k+1):Nat):Int)) (by rw [e3];rfl) (by omega)) ?_
   refine ai ?_;refine gE (cu (gR ?_));refine aC rfl rfl rfl rfl (aK (by omega)) ?_;refine ad ?_;refine gE ?_
   exact IH (k+1) _ _ hlt (by omega) ⟨rfl,rfl,rfl,rfl,rfl,rfl,rfl,rfl,trivial⟩ (List.Sublist.refl _)
  have hge:¬k<n:=by have h:=of_decide_eq_false hc;omega
  obtain rfl:n=k:=by omega
  have h3:=nr (show n≤3 by omega)
  refine aa.exit rfl (gS (gR ?_))
  refine ad ?_
  refine aa.tM NI 0 rfl rfl rfl rfl rfl xy hi0 hz0 rfl hsz0 (by rw [hby0];omega) (by unfold maxLen;omega) (fun b32=>?_)
  refine ai ?_;refine gE (gS (gS (gR ?_)));refine ad ?_;refine cq xy ?_;refine ad ?_;refine gE (gB ?_)
  refine aa.loop (σ:=Nat) (fun k=>[(0,.int .i64 n),(1,.int .i64 R),(2,.int .i64 x),(7,ptr b7),(8,ptr b8),(9,NI (3^n)),(10,aU (some b32) n n),(34,.int .i64 n),(35,.int .i64 k)]) (fun k=>[(some b32,ob NI 3 (dT n (2^·) k) []),(some b8,.cells #[.slice none 0 0,.slice none 0 0] 38 (0,0)),(some b7,.cells #[.slice A cs.length cA] 55 (0,0))])
    (fun k=>k≤n) (fun k=>n - k) 0 (Nat.zero_le _) ⟨rfl,rfl,rfl,rfl,rfl,rfl,rfl,rfl,rfl,trivial⟩ (by rw [kY];exact List.Sublist.refl _) (fun k hk IH=>?_)
  refine gS (gR ?_);refine aL db ?_;refine gE (gS ?_)
  refine gC (fun hc=>?_) fun hc=>?_
  ·
   have hlt:k<n:=by have h:=of_decide_eq_true hc;omega
   have h2:=hpw k (by omega)
   refine gK (gS (gB (gS (gR ?_))));refine ad ?_;refine ai ?_;refine gE (gR ?_)
   iterate 3 refine ad ?_
   refine aC rfl rfl rfl rfl (iP (x:=1) (j:=k) rfl (by omega) (by omega)) ?_
   refine aa.v (ah.cD rfl rfl rfl rfl rfl xy xk (k) ⟨rfl,hlt⟩) ?_
   refine aa.r0 NI (1*2^k) rfl rfl rfl rfl xk rfl 0 rfl (by rw [mx];exact hlt) ?_
   refine gE (cu (gR ?_));refine aC rfl rfl rfl rfl (aK (by omega)) ?_;refine ad ?_;refine gE ?_
   exact IH (k+1) _ _ hlt (by omega) ⟨rfl,rfl,rfl,rfl,rfl,rfl,rfl,rfl,rfl,trivial⟩ (by rw [←mw hlt,Nat.one_mul];exact List.Sublist.refl _)
  have hge:¬k<n:=by have h:=of_decide_eq_false hc;omega
  obtain rfl:n=k:=by omega
  rw [my]
  refine aa.exit rfl (gS (gR ?_))
  refine aa.v (ah.eg rfl rfl rfl rfl rfl) ?_
  refine ai ?_;refine gE (gS (gR ?_))
  refine aa.dc rfl rfl rfl (fun _=>zeroValue38 _) (fun b13=>?_)
  refine gE (gS (gS (gR ?_)));refine ad ?_;refine aC rfl rfl rfl rfl (aK (by omega)) ?_;refine ad ?_;refine gE (gB ?_)
  refine aa.cw (ob U 34 [] []) ?_
  refine aa.cw (ob AV.v 31 [] []) ?_
  refine aa.pick (pre:=[_,_,_,_,_,_]) (pre':=[(some b13,.cells #[.slice none 0 0,.slice none 0 0] 38 (0,0)),(none,ob AV.v 31 [] []),(none,ob U 34 [] []),(some b32,ob NI 3 (ew n cs 0) []),(some b7,.cells #[.slice A cs.length cA] 55 (0,0)),(some b8,.cells #[.slice none 0 0,.slice none 0 0] 38 (0,0))]) [2,0,1,3,5,4] (by decide) rfl ?_
  refine aa.loop (σ:=Nat×(Nat×Nat×List Value)×(Option Nat×Nat×List AV×List Value)×(Option Nat×Nat×List au×List Value)×Hl) (fun z=>[(0,.int .i64 n),(1,.int .i64 R),(2,.int .i64 x),(7,ptr b7),(8,ptr b8),(9,NI (3^n)),(10,aU (some z.2.1.1) n z.2.1.2.1),(12,.func (.func 30) ([]:List Value).toArray ([ptr b7]:List Value).toArray),(13,ptr b13),(46,.int .i64 ((R:Int)+1)),(47,.int .i64 z.1)])
    (fun z=>[(some b13,.cells #[aU z.2.2.1.1 z.2.2.1.2.2.1.length z.2.2.1.2.1,aU z.2.2.2.1.1 z.2.2.2.1.2.2.1.length z.2.2.2.1.2.1] 38 (0,0)),(z.2.2.1.1,ob AV.v 31 z.2.2.1.2.2.1 z.2.2.1.2.2.2),(z.2.2.2.1.1,ob U 34 z.2.2.2.1.2.2.1 z.2.2.2.1.2.2.2),(some z.2.1.1,ob NI 3 (ew n cs (z.1 - 1)) z.2.1.2.2),(some b7,.cells #[.slice A cs.length cA] 55 (0,0)),(some b8,.cells #[.slice none 0 0,.slice none 0 0] 38 (0,0))]++z.2.2.2.2)
    (fun z=>z.1≤R+1∧z.2.2.1.2.2.1.map AV.xs=(nh n x cs z.1).loc∧z.2.2.2.1.2.2.1=(nh n x cs z.1).lO∧(z.2.2.1.1=none→z.2.2.1.2.2.1.length=0∧z.2.2.1.2.1=0)∧(z.2.2.1.2.2.1.map AV.v++z.2.2.1.2.2.2).length=z.2.2.1.2.1∧(z.2.2.2.1.1=none→z.2.2.2.1.2.2.1.length=0∧z.2.2.2.1.2.1=0)∧(z.2.2.2.1.2.2.1.map U++z.2.2.2.1.2.2.2).length=z.2.2.2.1.2.1∧∀l∈z.2.2.1.2.2.1,l.In 3 z.2.2.2.2)
    (fun z=>R+1 - z.1) (0,(b32,n,[]),(none,0,[],[]),(none,0,[],[]),[]) ⟨Nat.zero_le _,rfl,rfl,fun _=>⟨rfl,rfl⟩,rfl,fun _=>⟨rfl,rfl⟩,rfl,fun _ h=>by cases h⟩ ⟨rfl,rfl,rfl,rfl,rfl,rfl,rfl,rfl,rfl,rfl,rfl,trivial⟩ (List.Sublist.refl _) (fun z hI IH=>?_)
  obtain ⟨t,⟨bk,ck,spk⟩,⟨qL,cL,Ls,spL⟩,⟨qF,cF,Fs,spF⟩,H⟩:=z
  obtain ⟨ht,hLs,hFs,hqL,hcL,hqF,hcF,hin⟩:=hI
  dsimp only at ht hLs hFs hqL hcL hqF hcF hin IH⊢
  have hLl:Ls.length=t:=by have:=congrArg List.length hLs;simpa [nh] using this
  have hFl:Fs.length=t:=by rw [hFs];simp [nh]
  refine gS (gR ?_);refine aL db ?_;refine gE (gS ?_)
  refine gC (fun hc=>?_) fun hc=>?_
  ·
   have hlt:t<R+1:=by have h:=of_decide_eq_true hc;omega
   refine gK (gS (gB (gS (gR ?_))));refine ad ?_;refine ai ?_;refine gE (gS ?_)
   refine aa.qP (α:=Nat×Nat×List Value) (fun z=>[(0,.int .i64 n),(1,.int .i64 R),(2,.int .i64 x),(7,ptr b7),(8,ptr b8),(9,NI (3^n)),(10,aU (some z.1) n z.2.1),(12,.func (.func 30) ([]:List Value).toArray ([ptr b7]:List Value).toArray),(13,ptr b13),(46,.int .i64 ((R:Int)+1)),(47,.int .i64 t),(14,.int .i64 t)]) (fun z=>[(some b13,.cells #[aU qL Ls.length cL,aU qF Fs.length cF] 38 (0,0)),(qL,ob AV.v 31 Ls spL),(qF,ob U 34 Fs spF),(some z.1,ob NI 3 (ew n cs t) z.2.2),(some b7,.cells #[.slice A cs.length cA] 55 (0,0)),(some b8,.cells #[.slice none 0 0,.slice none 0 0] 38 (0,0))]++H) (fun z=>?_) (fun K=>?_)
   obtain ⟨bk,ck,spk⟩:=z
   dsimp only
   have hok:fT n (ew n cs t):=kP
   · -- what comes behind
    refine gS (gR ?_);refine ai ?_;refine gE (gS (gR ?_));refine ad ?_
    refine aa.v (ah.conv rfl rfl rfl (cU xL underlying34 (by omega)) rfl) ?_
    refine ai ?_;refine gE (gS (gS (gR ?_)))
    iterate 2 refine ad ?_
    refine gE (gB ?_)
    refine aa.cw (ob dP 3 [] []) ?_
    refine aa.loop (σ:=Nat×Option Nat×Nat×List Value) (fun z=>[(0,.int .i64 n),(1,.int .i64 R),(2,.int .i64 x),(7,ptr b7),(8,ptr b8),(9,NI (3^n)),(10,aU (some bk) n ck),(12,.func (.func 30) ([]:List Value).toArray ([ptr b7]:List Value).toArray),(13,ptr b13),(46,.int .i64 ((R:Int)+1)),(47,.int .i64 t),(14,.int .i64 t),(19,aU z.2.1 (cN n x cs t z.1).length z.2.2.1),(20,U (n6 n x cs t z.1)),(115,.int .i64 n),(116,.int .i64 z.1)])
      (fun z=>[(z.2.1,ob dP 3 (cN n x cs t z.1) z.2.2.2),(some b13,.cells #[aU qL Ls.length cL,aU qF Fs.length cF] 38 (0,0)),(qL,ob AV.v 31 Ls spL),(qF,ob U 34 Fs spF),(some bk,ob NI 3 (ew n cs t) spk),(some b7,.cells #[.slice A cs.length cA] 55 (0,0)),(some b8,.cells #[.slice none 0 0,.slice none 0 0] 38 (0,0))]++H)
      (fun z=>z.1≤n∧(z.2.1=none→(cN n x cs t z.1).length=0∧z.2.2.1=0)∧((cN n x cs t z.1).map dP++z.2.2.2).length=z.2.2.1) (fun z=>n - z.1) (0,none,0,[]) ⟨Nat.zero_le _,fun _=>⟨rfl,rfl⟩,rfl⟩ ⟨rfl,rfl,rfl,rfl,rfl,rfl,rfl,rfl,rfl,rfl,rfl,rfl,rfl,rfl,rfl,rfl,trivial⟩ (List.Sublist.refl _) (fun z hI IH2=>?_)
    obtain ⟨i,ql,cl,spl⟩:=z
    obtain ⟨hi,hql,hcl2⟩:=hI
    dsimp only at hi hql hcl2 IH2⊢
    have hll:(cN n x cs t i).length=i:=pz
    refine gS (gR ?_);refine aL db ?_;refine gE (gS ?_)
    refine gC (fun hc=>?_) fun hc=>?_
    ·
     have hin2:i<n:=by have h:=of_decide_eq_true hc;omega
     refine gK (gS (gB (gS (gR ?_))));refine ad ?_;refine ai ?_;refine gE (gS (gS (gR ?_)))
     iterate 3 refine ad ?_
     refine aa.dO (fs:=[]) rfl rfl rfl rfl rfl (fun _ _=>call30 _ _) (fun w _ hS=>by exact kQ b7 A cA cs i t w (hS.get (j:=5) rfl) (hA.a8 hS.ext) (by omega)) ?_
     refine gE ?_
     refine gC (fun hc=>?_) fun hc=>?_
     ·
      have hg:gn (jj cs i) t=true:=hc
      have hl0:r5 n x cs t i=0:=by rw [r5,if_pos hg]
      have hf0:n6 n x cs t (i+1)=n6 n x cs t i:=by show s7 n cs t i _=_;rw [s7,if_pos hg];rfl
      refine gS (gR ?_);refine ad ?_
      refine aa.fR (c:=[_]) rfl rfl rfl rfl xy xk zeroValue3 rfl rfl (fun b124=>?_)
      refine aa.iv dP (news:=[0]) (spn:=[]) (xs:=cN n x cs t i) (sp:=spl) (q:=ql) rfl rfl rfl rfl rfl xy hi0 hz0 hsz0 rfl hql 1 rfl 0 rfl hcl2 rfl (by decide) (fun _=>rfl) (by unfold maxLen;omega) (by rw [hby0];omega) (fun b' sp' cap' hlen=>?_)
      have el:cN n x cs t i++[0]=cN n x cs t (i+1):=by rw [jR,hl0];rfl
      rw [el] at hlen⊢
      refine ai ?_;refine gE (aa.exit rfl (gR ?_));refine aC rfl rfl rfl rfl (aK (by omega)) ?_;refine ad ?_;refine gE ?_
      exact IH2 (i+1,some b',cap',sp') _ _ ⟨hin2,(fun e=>by cases e),hlen⟩ (by dsimp only;omega) ⟨rfl,rfl,rfl,rfl,rfl,rfl,rfl,rfl,rfl,rfl,rfl,rfl,rfl,by rw [hf0];rfl,rfl,rfl,trivial⟩ (.cons _ (List.Sublist.refl _))
     have hg:¬gn (jj cs i) t=true:=by rw [show gn (jj cs i) t=false from hc];simp
     have hf1:n6 n x cs t (i+1)=n6 n x cs t i|||(1#64<<<(n+i)):=by show s7 n cs t i _=_;rw [s7,if_neg hg];rfl
     have hl1:r5 n x cs t i=tL n x ((ew n cs t).getD i 0) t:=by rw [r5,if_neg hg]
     have hki:(ew n cs t).getD i 0<8:=Nat.lt_of_lt_of_le (hok.lt i) (hpw n (by omega))
     have hik:i<(ew n cs t).length:=by rw [hok.len];exact hin2
     have htp:t*3^n≤3*27:=Nat.mul_le_mul (by omega) h3
     refine gK (gS (gR ?_))
     iterate 3 refine ad ?_
     refine aC rfl rfl rfl rfl (iQ (c:=((n+i:Nat):Int)) (by omega) (by omega)) ?_
     refine aa.v (ah.bin (a:=U 1#64) rfl rfl rfl rfl (uE (n+i) (by omega)) rfl) ?_
     refine aL vT ?_;refine ai ?_;refine gE (gS (gR ?_))
     iterate 2 refine ad ?_
     refine aC rfl rfl rfl rfl (gg (a:=(t:Int)) (b:=((3^n:Nat):Int)) (c:=((t*3^n:Nat):Int)) (by push_cast;rfl) (by omega)) ?_
     refine aC rfl rfl rfl rfl (iQ (c:=((1+t*3^n:Nat):Int)) (by omega) (by omega)) ?_
     iterate 2 refine ai ?_
     refine gE (gS (gS (gR ?_)))
     iterate 2 refine ad ?_
     refine gE (gB ?_)
     refine aa.loop (σ:=Nat) (fun k=>[(0,.int .i64 n),(1,.int .i64 R),(2,.int .i64 x),(7,ptr b7),(8,ptr b8),(9,NI (3^n)),(10,aU (some bk) n ck),(12,.func (.func 30) ([]:List Value).toArray ([ptr b7]:List Value).toArray),(13,ptr b13),(46,.int .i64 ((R:Int)+1)),(47,.int .i64 t),(14,.int .i64 t),(19,aU ql (cN n x cs t i).length cl),(20,U (n6 n x cs t (i+1))),(115,.int .i64 n),(116,.int .i64 i),(21,.int .i64 i),(22,NI (aZ (lz x ((ew n cs t).getD i 0)) k (1+t*3^n))),(23,NI (3^k)),(136,.int .i64 n),(137,.int .i64 k)])
       (fun _=>[(ql,ob dP 3 (cN n x cs t i) spl),(some b13,.cells #[aU qL Ls.length cL,aU qF Fs.length cF] 38 (0,0)),(qL,ob AV.v 31 Ls spL),(qF,ob U 34 Fs spF),(some bk,ob NI 3 (ew n cs t) spk),(some b7,.cells #[.slice A cs.length cA] 55 (0,0)),(some b8,.cells #[.slice none 0 0,.slice none 0 0] 38 (0,0))]++H) (fun k=>k≤n) (fun k=>n - k) 0 (Nat.zero_le _) ⟨rfl,rfl,rfl,rfl,rfl,rfl,rfl,rfl,rfl,rfl,rfl,rfl,rfl,by rw [hf1];rfl,rfl,rfl,rfl,rfl,rfl,rfl,rfl,trivial⟩ (List.Sublist.refl _) (fun k hk IH3=>?_)
     have hs:=m6 (x:=x) (kni:=(ew n cs t).getD i 0) (a:=1+t*3^n) (k:=k)
     refine gS (gR ?_);refine aL db ?_;refine gE (gS ?_)
     refine gC (fun hc=>?_) fun hc=>?_
     ·
      have hkn:k<n:=by have h:=of_decide_eq_true hc;omega
      have h3k:=nr (show k+1≤3 by omega)
      have e3:3^(k+1)=3^k*3:=Nat.pow_succ ..
      have hx2:x / 2^k%2<2:=Nat.mod_lt _ (by omega)
      have hm2:3^k*(1+x / 2^k%2)≤3^k*2:=Nat.mul_le_mul_left _ (by omega)
      have hdx:x / 2^k≤x:=Nat.div_le_self _ _
      have hdk:(ew n cs t).getD i 0 / 2^k≤(ew n cs t).getD i 0:=Nat.div_le_self _ _
      refine gK (gS (gB (gS (gR ?_))));refine ad ?_;refine ai ?_;refine gE (gS (gS (gR ?_)))
      iterate 2 refine ad ?_
      refine aa.v (ah.cD rfl rfl rfl rfl rfl xy xk (i) ⟨rfl,hin2⟩) ?_
      refine aa.v (ah.nL NI 0 rfl rfl rfl rfl xl 4 rfl hik) ?_
      refine ad ?_
      refine aC rfl rfl rfl rfl (ke (x:=(ew n cs t).getD i 0) (j:=k) rfl (by omega) (by omega)) ?_
      refine aC rfl rfl rfl rfl (jo (by omega)) ?_;refine aL dU ?_;refine gE ?_
      refine gC (fun hc=>?_) fun hc=>?_
      ·
       have hb:(ew n cs t).getD i 0 / 2^k%2=1:=by
         have h:((((ew n cs t).getD i 0 / 2^k%2:Nat):Int)==1)=true:=hc
         have:=eq_of_beq h;omega
       have hst:aZ (lz x ((ew n cs t).getD i 0)) (k+1) (1+t*3^n)=aZ (lz x ((ew n cs t).getD i 0)) k (1+t*3^n)+3^k*(1+x / 2^k%2):=by
         show lz x _ k _=_
         rw [lz,if_pos hb]
       refine gR ?_
       iterate 4 refine ad ?_
       refine aC rfl rfl rfl rfl (ke (x:=x) (j:=k) rfl (by omega) (by omega)) ?_
       refine aC rfl rfl rfl rfl (jo (by omega)) ?_
       refine aC rfl rfl rfl rfl (iQ (c:=((1+x / 2^k%2:Nat):Int)) (by omega) (by omega)) ?_
       refine aC rfl rfl rfl rfl (gg (a:=((3^k:Nat):Int)) (b:=((1+x / 2^k%2:Nat):Int)) (c:=((3^k*(1+x / 2^k%2):Nat):Int)) (by rw [Int.natCast_mul]) (by omega)) ?_
       refine aC rfl rfl rfl rfl (iQ (a:=((aZ (lz x ((ew n cs t).getD i 0)) k (1+t*3^n):Nat):Int)) (c:=((aZ (lz x ((ew n cs t).getD i 0)) k (1+t*3^n)+3^k*(1+x / 2^k%2):Nat):Int)) (by rw [Int.natCast_add]) (by omega)) ?_
       refine ai ?_;refine gE (gR ?_);refine ad ?_
       refine aC rfl rfl rfl rfl (gg (a:=((3^k:Nat):Int)) (c:=((3^(k+1):Nat):Int)) (by rw [e3];rfl) (by omega)) ?_
       refine ai ?_;refine gE (cu (gR ?_));refine aC rfl rfl rfl rfl (aK (by omega)) ?_;refine ad ?_;refine gE ?_
       exact IH3 (k+1) _ _ hkn (by omega) ⟨rfl,rfl,rfl,rfl,rfl,rfl,rfl,rfl,rfl,rfl,rfl,rfl,rfl,rfl,rfl,rfl,rfl,by rw [hst];rfl,rfl,rfl,rfl,trivial⟩ (List.Sublist.refl _)
      have hb:¬(ew n cs t).getD i 0 / 2^k%2=1:=by
        have h:((((ew n cs t).getD i 0 / 2^k%2:Nat):Int)==1)=false:=hc
        intro e;rw [e] at h;cases h
      have hst:aZ (lz x ((ew n cs t).getD i 0)) (k+1) (1+t*3^n)=aZ (lz x ((ew n cs t).getD i 0)) k (1+t*3^n):=by
        show lz x _ k _=_
        rw [lz,if_neg hb]
      refine gK (gR ?_);refine ad ?_
      refine aC rfl rfl rfl rfl (gg (a:=((3^k:Nat):Int)) (c:=((3^(k+1):Nat):Int)) (by rw [e3];rfl) (by omega)) ?_
      refine ai ?_;refine gE (cu (gR ?_));refine aC rfl rfl rfl rfl (aK (by omega)) ?_;refine ad ?_;refine gE ?_
      exact IH3 (k+1) _ _ hkn (by omega) ⟨rfl,rfl,rfl,rfl,rfl,rfl,rfl,rfl,rfl,rfl,rfl,rfl,rfl,rfl,rfl,rfl,rfl,by rw [hst];rfl,rfl,rfl,rfl,trivial⟩ (List.Sublist.refl _)
     have hkn:¬k<n:=by have h:=of_decide_eq_false hc;omega
     obtain rfl:n=k:=by omega
     refine aa.exit rfl (gR ?_)
     iterate 2 refine ad ?_
     refine aa.fR (c:=[_]) rfl rfl rfl rfl xy xk zeroValue3 rfl rfl (fun b162=>?_)
     refine aa.iv dP (news:=[((tL n x ((ew n cs t).getD i 0) t:Nat):Int)]) (spn:=[]) (xs:=cN n x cs t i) (sp:=spl) (q:=ql) rfl rfl rfl rfl rfl xy hi0 hz0 hsz0 rfl hql 1 rfl 0 rfl hcl2 rfl (by decide) (fun _=>rfl) (by unfold maxLen;omega) (by rw [hby0];omega) (fun b' sp' cap' hlen=>?_)
     have el:cN n x cs t i++[((tL n x ((ew n cs t).getD i 0) t:Nat):Int)]=cN n x cs t (i+1):=by rw [jR,hl1]
     rw [el] at hlen⊢
     refine ai ?_;refine gE (cu (gR ?_));refine aC rfl rfl rfl rfl (aK (by omega)) ?_;refine ad ?_;refine gE ?_
     exact IH2 (i+1,some b',cap',sp') _ _ ⟨hin2,(fun e=>by cases e),hlen⟩ (by dsimp only;omega) ⟨rfl,rfl,rfl,rfl,rfl,rfl,rfl,rfl,rfl,rfl,rfl,rfl,rfl,rfl,rfl,rfl,trivial⟩ (.cons _ (List.Sublist.refl _))
    have hge:¬i<n:=by have h:=of_decide_eq_false hc;omega
    obtain rfl:n=i:=by omega
    refine aa.exit rfl (gS (gR ?_))
    refine ak xI sizeOf35 0 ?_;refine aj isAgg35 1 ?_;refine ad ?_
    refine aa.fR (c:=[_]) rfl rfl rfl rfl xP sizeOf31 zeroValue31 rfl rfl (fun b168=>?_)
    obtain ⟨bl,rfl⟩:∃b,ql=some b:=by
      cases ql with
      |none=>have:=(hql rfl).1;omega
      |some b=>exact ⟨b,rfl⟩
    refine aa.iv AV.v (news:=[AV.mk (some ⟨bl,0,none⟩) cl (cN n x cs t n)]) (spn:=[]) (xs:=Ls) (sp:=spL) (q:=qL) rfl rfl rfl rfl rfl xP hi1 hz1 hsz1 rfl hqL 3 rfl 0 rfl hcL rfl (by decide) (fun _=>rfl) (by unfold maxLen;omega) (by rw [hby1];omega) (fun bL spL2 cL2 hlenL=>?_)
    refine ak xI sizeOf35 0 ?_
    refine aa.st rfl rfl rfl rfl sizeOf35 rfl 2 rfl rfl ?_
    refine gE (gR ?_);refine ak xI sizeOf36 1 ?_;refine aj isAgg36 2 ?_;refine ad ?_
    refine aa.fR (c:=[_]) rfl rfl rfl rfl xT sizeOf34 zeroValue34 rfl rfl (fun b174=>?_)
    refine aa.iv U (news:=[n6 n x cs t n]) (spn:=[]) (xs:=Fs) (sp:=spF) (q:=qF) rfl rfl rfl rfl rfl xT hi2 hz2 hsz2 rfl hqF 5 rfl 0 rfl hcF rfl (by decide) (fun _=>rfl) (by unfold maxLen;omega) (by rw [hby2];omega) (fun bF spF2 cF2 hlenF=>?_)
    refine ak xI sizeOf36 1 ?_
    refine aa.st rfl rfl rfl rfl sizeOf36 rfl 3 rfl rfl ?_
    refine gE (cu (gR ?_));refine aC rfl rfl rfl rfl (aK (by omega)) ?_;refine ad ?_;refine gE ?_
    refine aa.c7 (pre:=[_,_,_,_,_,_,_,_,_]) (pre':=[(some b13,.cells #[aU (some bL) (Ls++[AV.mk (some ⟨bl,0,none⟩) cl (cN n x cs t n)]).length cL2,aU (some bF) (Fs++[n6 n x cs t n]).length cF2] 38 (0,0)),(some bL,ob AV.v 31 (Ls++[AV.mk (some ⟨bl,0,none⟩) cl (cN n x cs t n)]) spL2),(some bF,ob U 34 (Fs++[n6 n x cs t n]) spF2),(some bk,ob NI 3 (ew n cs t) spk),(some b7,.cells #[.slice A cs.length cA] 55 (0,0)),(some b8,.cells #[.slice none 0 0,.slice none 0 0] 38 (0,0)),(some bl,ob dP 3 (cN n x cs t n) spl)]) H [3,4,5,6,7,8,2] (by decide) rfl ?_
    refine IH (t+1,(bk,ck,spk),(some bL,cL2,Ls++[_],spL2),(some bF,cF2,Fs++[_],spF2),(some bl,ob dP 3 (cN n x cs t n) spl)::H) _ _ ⟨hlt,?_,?_,(fun e=>by cases e),hlenL,(fun e=>by cases e),hlenF,fun l hl=>?_⟩ (by dsimp only;omega) ⟨rfl,rfl,rfl,rfl,rfl,rfl,rfl,rfl,rfl,rfl,rfl,trivial⟩ (List.Sublist.refl _)
    · dsimp only;rw [List.map_append,hLs,jC];rfl
    · dsimp only;rw [hFs,jC]
    rcases List.mem_append.1 hl with hl|hl
    · exact (hin l hl).mono (List.subset_cons_self _ _)
    rw [List.mem_singleton.1 hl];exact ⟨bl,spl,rfl,List.mem_cons_self ..⟩
   · -- the first part
    refine gS (gR ?_);refine ad ?_;refine aL qz ?_;refine gE ?_
    refine gC (fun hc=>?_) fun hc=>?_
    ·
     have ht0:0<t:=by have h:=of_decide_eq_true hc;omega
     obtain ⟨t',rfl⟩:∃t',t=t'+1:=⟨t - 1,by omega⟩
     rw [Nat.add_sub_cancel]
     obtain ⟨kn,hkn⟩:∃kn,kn=ew n cs t':=⟨_,rfl⟩
     have hok:fT n kn:=by rw [hkn];exact kP
     have hks:ew n cs (t'+1)=aZ (sJ n cs (t'+1) kn) n kn:=by rw [hkn];rfl
     rw [hks] at K
     rw [←hkn]
     refine gS (gR ?_);refine ad ?_
     refine gM rfl rfl rfl rfl rfl call31 (fun w _ hS=>(by have:=mG (some ⟨bk,0,none⟩) ck kn w (Sl.c5 (hS.get (j:=3) rfl)) (by rw [hok.len];omega) (by rw [hok.len];omega);rw [hok.len] at this;exact this)) ?_
     rintro v w1 w2 Y' hS he ho
     obtain ⟨qn,cn,spn,rfl,hqn,hcn,hS'⟩:=qt hS he ho
     obtain ⟨bn,rfl⟩:∃b,qn=some b:=by
       cases qn with
       |none=>have:=(hqn rfl).1;rw [hok.len] at this;omega
       |some b=>exact ⟨b,rfl⟩
     refine ⟨_,hS',?_⟩
     rw [hok.len]
     refine ai ?_;refine gE (gS (gS (gR ?_)))
     iterate 2 refine ad ?_
     refine gE (gB ?_)
     refine aa.loop (σ:=Nat) (fun i=>[(0,.int .i64 n),(1,.int .i64 R),(2,.int .i64 x),(7,ptr b7),(8,ptr b8),(9,NI (3^n)),(10,aU (some bk) n ck),(12,.func (.func 30) ([]:List Value).toArray ([ptr b7]:List Value).toArray),(13,ptr b13),(46,.int .i64 ((R:Int)+1)),(47,.int .i64 ((t'+1:Nat):Int)),(14,.int .i64 ((t'+1:Nat):Int)),(15,aU (some bn) n cn),(54,.int .i64 n),(55,.int .i64 i)]) (fun i=>[(some bn,ob NI 3 (aZ (sJ n cs (t'+1) kn) i kn) spn),(some b13,.cells #[aU qL Ls.length cL,aU qF Fs.length cF] 38 (0,0)),(qL,ob AV.v 31 Ls spL),(qF,ob U 34 Fs spF),(some bk,ob NI 3 kn spk),(some b7,.cells #[.slice A cs.length cA] 55 (0,0)),(some b8,.cells #[.slice none 0 0,.slice none 0 0] 38 (0,0))]++H) (fun i=>i≤n) (fun i=>n - i) 0 (Nat.zero_le _) ⟨rfl,rfl,rfl,rfl,rfl,rfl,rfl,rfl,rfl,rfl,rfl,rfl,rfl,rfl,rfl,trivial⟩ (List.Sublist.refl _) (fun i hi IH2=>?_)
     refine gS (gR ?_);refine aL db ?_;refine gE (gS ?_)
     refine gC (fun hc=>?_) fun hc=>?_
     ·
      have hin2:i<n:=by have h:=of_decide_eq_true hc;omega
      have hik:i<kn.length:=by rw [hok.len];exact hin2
      have hki:kn.getD i 0<8:=Nat.lt_of_lt_of_le (hok.lt i) (hpw n (by omega))
      obtain ⟨nx0,hnx0⟩:∃nx0,nx0=(aZ (sJ n cs (t'+1) kn) i kn):=⟨_,rfl⟩
      have hok0:fT n nx0:=by rw [hnx0];exact nN hok
      rw [←hnx0]
      refine gK (gS (gB (gS (gR ?_))));refine ad ?_;refine ai ?_;refine gE (gS (gR ?_))
      iterate 2 refine ad ?_
      refine gE (gB ?_)
      refine aa.loop (σ:=Nat) (fun k=>[(0,.int .i64 n),(1,.int .i64 R),(2,.int .i64 x),(7,ptr b7),(8,ptr b8),(9,NI (3^n)),(10,aU (some bk) n ck),(12,.func (.func 30) ([]:List Value).toArray ([ptr b7]:List Value).toArray),(13,ptr b13),(46,.int .i64 ((R:Int)+1)),(47,.int .i64 ((t'+1:Nat):Int)),(14,.int .i64 ((t'+1:Nat):Int)),(15,aU (some bn) n cn),(54,.int .i64 n),(55,.int .i64 i),(16,.int .i64 i),(58,.int .i64 n),(59,.int .i64 k)]) (fun k=>[(some bn,ob NI 3 (aZ (oM cs (t'+1) i kn) k nx0) spn),(some b13,.cells #[aU qL Ls.length cL,aU qF Fs.length cF] 38 (0,0)),(qL,ob AV.v 31 Ls spL),(qF,ob U 34 Fs spF),(some bk,ob NI 3 kn spk),(some b7,.cells #[.slice A cs.length cA] 55 (0,0)),(some b8,.cells #[.slice none 0 0,.slice none 0 0] 38 (0,0))]++H) (fun k=>k≤n) (fun k=>n - k) 0 (Nat.zero_le _) ⟨rfl,rfl,rfl,rfl,rfl,rfl,rfl,rfl,rfl,rfl,rfl,rfl,rfl,rfl,rfl,rfl,rfl,rfl,trivial⟩ (List.Sublist.refl _) (fun k hk IH3=>?_)
      obtain ⟨nx,hnx⟩:∃nx,nx=aZ (oM cs (t'+1) i kn) k nx0:=⟨_,rfl⟩
      have hokx:fT n nx:=by rw [hnx];exact nO hok hok0
      have hstep:aZ (oM cs (t'+1) i kn) (k+1) nx0=oM cs (t'+1) i kn k nx:=by rw [hnx];rfl
      rw [←hnx]
      refine gS (gR ?_);refine aL db ?_;refine gE (gS ?_)
      refine gC (fun hc=>?_) fun hc=>?_
      ·
       have hkn2:k<n:=by have h:=of_decide_eq_true hc;omega
       have hkl:k<nx.length:=by rw [hokx.len];exact hkn2
       have hkx:nx.getD k 0<8:=Nat.lt_of_lt_of_le (hokx.lt k) (hpw n (by omega))
       have hic:i<cs.length:=by omega
       have hcA:=k7 hic
       have hc8:cs[i].2<8:=hcb _ (List.getElem_mem hic)
       have hdc:cs[i].2 / 2^k≤cs[i].2:=Nat.div_le_self _ _
       have hor:nx.getD k 0|||kn.getD i 0<2^3:=Nat.or_lt_two_pow hkx hki
       refine gK (gS (gB (gS (gR ?_))));refine ad ?_;refine ai ?_;refine gE (gS ?_)
       refine aa.fg (α:=Unit) [] (fun _=>[(0,.int .i64 n),(1,.int .i64 R),(2,.int .i64 x),(7,ptr b7),(8,ptr b8),(9,NI (3^n)),(10,aU (some bk) n ck),(12,.func (.func 30) ([]:List Value).toArray ([ptr b7]:List Value).toArray),(13,ptr b13),(46,.int .i64 ((R:Int)+1)),(47,.int .i64 ((t'+1:Nat):Int)),(14,.int .i64 ((t'+1:Nat):Int)),(15,aU (some bn) n cn),(54,.int .i64 n),(55,.int .i64 i),(16,.int .i64 i),(58,.int .i64 n),(59,.int .i64 k),(17,.int .i64 k),(18,.bool (oQ (jj cs i) (t'+1) k))]) (fun _=>[(some bn,ob NI 3 nx spn),(some b13,.cells #[aU qL Ls.length cL,aU qF Fs.length cF] 38 (0,0)),(qL,ob AV.v 31 Ls spL),(qF,ob U 34 Fs spF),(some bk,ob NI 3 kn spk),(some b7,.cells #[.slice A cs.length cA] 55 (0,0)),(some b8,.cells #[.slice none 0 0,.slice none 0 0] 38 (0,0))]++H) (fun _=>?_) (fun K2=>?_)
       · -- what comes behind the region
        refine gE (gS ?_)
        refine aa.fg (α:=Unit) [] (fun _=>[(0,.int .i64 n),(1,.int .i64 R),(2,.int .i64 x),(7,ptr b7),(8,ptr b8),(9,NI (3^n)),(10,aU (some bk) n ck),(12,.func (.func 30) ([]:List Value).toArray ([ptr b7]:List Value).toArray),(13,ptr b13),(46,.int .i64 ((R:Int)+1)),(47,.int .i64 ((t'+1:Nat):Int)),(14,.int .i64 ((t'+1:Nat):Int)),(15,aU (some bn) n cn),(54,.int .i64 n),(55,.int .i64 i),(16,.int .i64 i),(58,.int .i64 n),(59,.int .i64 k),(17,.int .i64 k),(99,.bool (nz cs (t'+1) i k))]) (fun _=>[(some bn,ob NI 3 nx spn),(some b13,.cells #[aU qL Ls.length cL,aU qF Fs.length cF] 38 (0,0)),(qL,ob AV.v 31 Ls spL),(qF,ob U 34 Fs spF),(some bk,ob NI 3 kn spk),(some b7,.cells #[.slice A cs.length cA] 55 (0,0)),(some b8,.cells #[.slice none 0 0,.slice none 0 0] 38 (0,0))]++H) (fun _=>?_) (fun K2=>?_)
        · -- what comes behind the region
         refine gE ?_
         refine gC (fun hc=>?_) fun hc=>?_
         ·
          have hnb:nz cs (t'+1) i k=true:=hc
          rw [oM,if_pos hnb] at hstep
          refine aa.draw 10 mixed rfl ?_
          iterate 2 refine ik ?_
          refine ao.v (ah.cD rfl rfl rfl rfl rfl xy xk (k) ⟨rfl,hkn2⟩) ?_
          refine ao.v (ah.nL NI 0 rfl rfl rfl rfl xl 0 rfl hkl) ?_
          iterate 2 refine ik ?_
          refine ao.v (ah.cD rfl rfl rfl rfl rfl xy xk (i) ⟨rfl,hin2⟩) ?_
          refine ao.v (ah.nL NI 0 rfl rfl rfl rfl xl 4 rfl hik) ?_
          refine ao.v (ah.bin rfl rfl rfl rfl (uF (x:=nx.getD k 0) (y:=kn.getD i 0) (by omega) (by omega) rfl) rfl) ?_
          refine ao.v (ah.cD rfl rfl rfl rfl rfl xy xk (k) ⟨rfl,hkn2⟩) ?_
          refine ao.nil ?_
          refine aa.r0 NI (nx.getD k 0|||kn.getD i 0) rfl rfl rfl rfl xk rfl 0 rfl hkl ?_
          refine gE (cu (gR ?_));refine aC rfl rfl rfl rfl (aK (by omega)) ?_;refine ad ?_;refine gE ?_
          exact IH3 (k+1) _ _ hkn2 (by omega) ⟨rfl,rfl,rfl,rfl,rfl,rfl,rfl,rfl,rfl,rfl,rfl,rfl,rfl,rfl,rfl,rfl,rfl,rfl,trivial⟩ (by rw [hstep];exact List.Sublist.refl _)
         have hnb:¬nz cs (t'+1) i k=true:=by rw [show nz cs (t'+1) i k=false from hc];simp
         rw [oM,if_neg hnb] at hstep
         refine gK (cu (gR ?_));refine aC rfl rfl rfl rfl (aK (by omega)) ?_;refine ad ?_;refine gE ?_
         exact IH3 (k+1) _ _ hkn2 (by omega) ⟨rfl,rfl,rfl,rfl,rfl,rfl,rfl,rfl,rfl,rfl,rfl,rfl,rfl,rfl,rfl,rfl,rfl,rfl,trivial⟩ (by rw [hstep];exact List.Sublist.refl _)
        · -- the region
         refine gR ?_
         iterate 2 refine ad ?_
         refine aL eV ?_;refine ad ?_
         refine cM 90 (fun hc=>?_) fun hc=>?_
         ·
          have h1:(i==k)=false:=by
            have h:(((i:Nat):Int) !=(k:Int))=true:=hc
            have h':¬(i:Int)=k:=by simpa using h
            exact beq_eq_false_iff_ne.2 (by omega)
          refine ad ?_;refine aV ?_;refine ad ?_
          refine cM 93 (fun hc=>?_) fun hc=>?_
          ·
           have h2:oQ (jj cs i) (t'+1) k=true:=hc
           iterate 3 refine ad ?_
           refine aa.dO (fs:=[]) rfl rfl rfl rfl rfl (fun _ _=>call30 _ _) (fun w _ hS=>by exact kQ b7 A cA cs k (t'+1) w (hS.get (j:=5) rfl) (hA.a8 hS.ext) (by omega)) ?_
           refine bP aH ?_;refine aV ?_
           exact K2 () _ _ (by repeat (first|exact bC.nil|refine bC.cons (by first|rfl|exact congrArg (fun b=>some (Value.bool b)) (show (!gn (jj cs k) (t'+1))=nz cs (t'+1) i k by rw [nz,h1,h2];rfl)) ?_)) (fun _ _ hS=>hS)
          have h2:oQ (jj cs i) (t'+1) k=false:=hc
          iterate 5 refine ba ?_
          refine aN ?_
          exact K2 () _ _ (by repeat (first|exact bC.nil|refine bC.cons (by first|rfl|exact congrArg (fun b=>some (Value.bool b)) (show false=nz cs (t'+1) i k by rw [nz,h1,h2];rfl)) ?_)) (fun _ _ hS=>hS)
         have h1:(i==k)=true:=by
           have h:(((i:Nat):Int) !=(k:Int))=false:=hc
           have h':(i:Int)=k:=by simpa using h
           exact beq_iff_eq.2 (by omega)
         refine ba ?_;refine aN ?_;refine ad ?_
         iterate 5 refine ba ?_
         refine aN ?_
         exact K2 () _ _ (by repeat (first|exact bC.nil|refine bC.cons (by first|rfl|exact congrArg (fun b=>some (Value.bool b)) (show false=nz cs (t'+1) i k by rw [nz,h1];rfl)) ?_)) (fun _ _ hS=>hS)
       · -- the region
        refine gR ?_
        iterate 3 refine ad ?_
        refine aa.dO (fs:=[]) rfl rfl rfl rfl rfl (fun _ _=>call30 _ _) (fun w _ hS=>by exact kQ b7 A cA cs i (t'+1) w (hS.get (j:=5) rfl) (hA.a8 hS.ext) (by omega)) ?_
        refine bP aH ?_;refine ad ?_
        refine cM 67 (fun hc=>?_) fun hc=>?_
        ·
         have hg:gn (jj cs i) (t'+1)=false:=by simpa using hc
         iterate 18 refine ba ?_
         refine aV ?_;refine ai ?_
         exact K2 () _ _ (by repeat (first|exact bC.nil|refine bC.cons (by first|rfl|exact congrArg (fun b=>some (Value.bool b)) (show true=oQ (jj cs i) (t'+1) k by rw [oQ,hg];rfl)) ?_)) (fun _ _ hS=>hS)
        have hg:gn (jj cs i) (t'+1)=true:=by simpa using hc
        refine aj isAgg55 5 ?_;refine ad ?_
        refine aa.v (ah.fo rfl rfl rfl rfl rfl xG sizeOf78 ⟨_,(hA).at_⟩ (aO (enc:=cG) (sz:=2) (fun _=>rfl)) (by decide) (i) ⟨rfl,hic⟩) ?_
        refine aa.v (ah.jg rfl rfl rfl rfl underlying78 rfl xk ((i)*2+0) rfl) ?_
        refine aa.v (ah.ld rfl rfl rfl rfl xl (fun w _ hS=>Sl.jX (enc:=cG) (sz:=2) ((hA).a8 hS.ext).at_ (fun _=>rfl) hic rfl)) ?_
        refine ad ?_;refine aL dU ?_;refine ad ?_
        refine cM 75 (fun hc=>?_) fun hc=>?_
        ·
         have hr:(cs[i].1==t'+1)=true:=by
           have h:((cs[i].1:Int)==((t'+1:Nat):Int))=true:=hc
           have:=eq_of_beq h
           exact beq_iff_eq.2 (by omega)
         refine aj isAgg55 5 ?_;refine ad ?_
         refine aa.v (ah.fo rfl rfl rfl rfl rfl xG sizeOf78 ⟨_,(hA).at_⟩ (aO (enc:=cG) (sz:=2) (fun _=>rfl)) (by decide) (i) ⟨rfl,hic⟩) ?_
         refine aa.v (ah.jg rfl rfl rfl rfl underlying78 rfl xk ((i)*2+1) rfl) ?_
         refine aa.v (ah.ld rfl rfl rfl rfl xl (fun w _ hS=>Sl.jX (enc:=cG) (sz:=2) ((hA).a8 hS.ext).at_ (fun _=>rfl) hic rfl)) ?_
         refine ad ?_
         refine aC rfl rfl rfl rfl (ke (x:=cs[i].2) (j:=k) rfl (by omega) (by omega)) ?_
         refine aC rfl rfl rfl rfl (jo (by omega)) ?_;refine aL dU ?_;refine aV ?_;refine aN ?_;refine ai ?_
         exact K2 () _ _ (by repeat (first|exact bC.nil|refine bC.cons (by first|rfl|exact congrArg (fun b=>some (Value.bool b)) (show ((((cs[i].2 / 2^k%2:Nat):Int)==1))=oQ (jj cs i) (t'+1) k by rw [oQ,hg,hcA,hr,oz];rfl)) ?_)) (fun _ _ hS=>hS)
        have hr:(cs[i].1==t'+1)=false:=by
          have h:((cs[i].1:Int)==((t'+1:Nat):Int))=false:=hc
          cases e:cs[i].1==t'+1 with
          |false=>rfl
          |true=>rw [eq_of_beq e] at h;simp at h
        iterate 9 refine ba ?_
        iterate 2 refine aN ?_
        refine ai ?_
        exact K2 () _ _ (by repeat (first|exact bC.nil|refine bC.cons (by first|rfl|exact congrArg (fun b=>some (Value.bool b)) (show false=oQ (jj cs i) (t'+1) k by rw [oQ,hg,hcA,hr];rfl)) ?_)) (fun _ _ hS=>hS)
      have hkn2:¬k<n:=by have h:=of_decide_eq_false hc;omega
      obtain rfl:n=k:=by omega
      refine aa.exit rfl (cu (gR ?_))
      refine aC rfl rfl rfl rfl (aK (by omega)) ?_;refine ad ?_;refine gE ?_
      exact IH2 (i+1) _ _ hin2 (by omega) ⟨rfl,rfl,rfl,rfl,rfl,rfl,rfl,rfl,rfl,rfl,rfl,rfl,rfl,rfl,rfl,trivial⟩ (by rw [hnx,hnx0];exact List.Sublist.refl _)
     have hin2:¬i<n:=by have h:=of_decide_eq_false hc;omega
     obtain rfl:n=i:=by omega
     refine aa.exit rfl (gR ?_)
     refine ad ?_;refine ai ?_;refine gE ?_
     exact K (bn,cn,spn) _ _ sF (fun _ _ hS=>hS.c7 (pre:=[_,_,_,_,_,_,_]) (pre':=[_,_,_,_,_,_]) (HR:=H) [1,2,3,0,5,6] (by decide) rfl)
    have ht0:t=0:=by have h:=of_decide_eq_false hc;omega
    subst ht0
    refine gK ?_
    exact K (bk,ck,spk) _ _ sF (fun _ _ hS=>hS)
  have hge:¬t<R+1:=by have h:=of_decide_eq_false hc;omega
  obtain rfl:t=R+1:=by omega
  obtain ⟨bL,rfl⟩:∃b,qL=some b:=by
    cases qL with
    |none=>have:=(hqL rfl).1;omega
    |some b=>exact ⟨b,rfl⟩
  obtain ⟨bF,rfl⟩:∃b,qF=some b:=by
    cases qF with
    |none=>have:=(hqF rfl).1;omega
    |some b=>exact ⟨b,rfl⟩
  refine aa.exit rfl (gS (gR ?_))
  refine aa.v (ah.eR rfl rfl rfl rfl isAgg38 0 rfl xH rfl) ?_
  refine aa.bV rfl rfl rfl rfl xH 5 rfl rfl rfl rfl ?_
  refine gE ?_
  refine aa.cC Try.f16 func16 _ (ax.cell rfl isAgg38 xH (j:=5) rfl rfl ax.nil) (fun w' hS=>?_)
  exact ⟨hS.ext,⟨some ⟨bL,0,none⟩,cL,Ls,some ⟨bF,0,none⟩,cF,Fs⟩,(some bL,ob AV.v 31 Ls spL)::(some bF,ob U 34 Fs spF)::H,rfl,by rw [RV.d,hLs,hFs],c3.of (hS.c7 (pre:=[_,_,_,_,_,_]) (pre':=[_,_]) (HR:=H) [1,2] (by decide) rfl),⟨⟨bL,spL,rfl,List.mem_cons_self ..⟩,fun l hl=>(hin l hl).mono (fun _ h=>List.mem_cons_of_mem _ (List.mem_cons_of_mem _ h)),⟨bF,spF,rfl,List.mem_cons_of_mem _ (List.mem_cons_self ..)⟩⟩⟩
end Go.Proofs.Ytkpknmgofmohbaa
namespace Go.Proofs.Ytkpknmgofmohbaa
open Go.RowKit Go.Proofs.Wit Try
theorem rE (n x b:Nat) (w:World) (hb:w.heap[b]?=some (.cells #[.int .i64 n] 3 (0,0))) (hn:n≤3) (hx:x<2^n):Cn Try.prog 15 [.int .i64 x,ptr b] w (fun v _=>v=.bool false):=by
 have hpw:2^n≤8:=Nat.pow_le_pow_right (by omega) hn
 have HB:∀{w':World} {j:Nat} {u:Value},Ex [] w w'→(#[.int .i64 (n:Int)]:Array Value)[j]?=some u→w'.cell? ⟨b,j,none⟩=some u:=fun e h=>Ex.cell e hb h
 refine Cn.of func15 rfl rfl ?_
 refine gS (gR ?_);refine ai ?_;refine gE (gS (gR ?_));refine ad ?_
 refine aC rfl rfl rfl rfl (oB (v:=false) (by simp)) ?_
 iterate 2 refine ad ?_
 refine aa.v (ah.ld (p:=⟨b,0,none⟩) rfl rfl rfl rfl xl (fun w _ hS=>HB hS.ext rfl)) ?_
 refine aC rfl rfl rfl rfl (iP (x:=1) (j:=n) rfl (by omega) (by omega)) ?_
 refine aC rfl rfl rfl rfl (jm (v:=false) (decide_eq_false (by omega))) ?_
 refine aN ?_;refine ai ?_;refine gE ?_
 refine gT func15 fun w' hS=>?_
 exact ⟨hS.ext,rfl⟩
theorem rp (n:Nat) (hn:n≤3) (a:Option Addr) (ca:Nat) (xs:List Nat) (hx:∀x∈xs,x<2^n) (b:Nat) (w:World) (ha:Sl w a (xs.map NI)) (hl:xs.length≤100) (hb:w.heap[b]?=some (.cells #[.int .i64 n] 3 (0,0))):
    Cn Try.prog 29 [.slice a xs.length ca,.func (.func 15) ([]:List Value).toArray ([ptr b]:List Value).toArray] w (fun v _=>v=.int .i64 (-1)):=by
  refine Cn.of func29 rfl rfl ?_
  refine gS (gR ?_);refine ai ?_;refine gE (gS (gS (gR ?_)));refine ad ?_;refine cq xy ?_;refine ad ?_;refine gE (gB ?_)
  refine aa.loop (σ:=Nat) (fun k=>[(0,.slice a xs.length ca),(1,.func (.func 15) ([]:List Value).toArray ([ptr b]:List Value).toArray),(7,.int .i64 xs.length),(8,.int .i64 k)]) (fun _=>[])
    (fun k=>k≤xs.length) (fun k=>xs.length - k) 0 (Nat.zero_le _) ⟨rfl,rfl,rfl,rfl,trivial⟩ .slnil (fun k hk IH=>?_)
  refine gS (gR ?_);refine aL db ?_;refine gE (gS ?_)
  refine gC (fun hc=>?_) fun hc=>?_
  ·
   have hlt:k<xs.length:=by have h:=of_decide_eq_true hc;omega
   refine gK (gS (gB (gS (gR ?_))));refine ad ?_;refine ai ?_;refine gE (gS (gR ?_))
   iterate 3 refine ad ?_
   refine aa.v (ah.idx rfl rfl rfl rfl rfl xy xk ⟨_,ha⟩ (by simp) k ⟨rfl,by simpa using hlt⟩) ?_
   refine aa.v (ah.ld rfl rfl rfl rfl xl (fun w _ hS=>(show w.cell? (dk a k)=some (.int .i64 (xs[k]:Int)) by rw [(Sl.ex ha hS.ext (by simp)).cell k (by simpa using hlt)];simp [List.getD_eq_getElem?_getD,hlt,NI]))) ?_
   refine aa.dO (fs:=[]) rfl rfl rfl rfl rfl (fun _ _=>call15 _ _) (fun w _ hS=>by exact rE n xs[k] b w (hS.ext.jS hb) hn (hx _ (List.getElem_mem hlt))) ?_
   refine gE (aa.aP rfl (gK (cu (gR ?_))));refine aC rfl rfl rfl rfl (aK (by omega)) ?_;refine ad ?_;refine gE ?_
   exact IH (k+1) _ _ hlt (by omega) ⟨rfl,rfl,rfl,rfl,trivial⟩ .slnil
  refine aa.exit rfl (gS (gR ?_))
  refine ai ?_;refine gE ?_
  refine gT func29 fun w' hS=>?_
  exact ⟨hS.ext,rfl⟩
theorem rL (n:Nat) (hn:n≤3) (a:Option Addr) (ca:Nat) (xs:List Nat) (hx:∀x∈xs,x<2^n) (b:Nat) (w:World) (ha:Sl w a (xs.map NI)) (hl:xs.length≤100) (hb:w.heap[b]?=some (.cells #[.int .i64 n] 3 (0,0))):
  Cn Try.prog 14 [.slice a xs.length ca,.func (.func 15) ([]:List Value).toArray ([ptr b]:List Value).toArray] w (fun v _=>v=.bool false):=by
 refine Cn.of func14 rfl rfl ?_
 refine gS (gR ?_);refine ai ?_;refine gE (gS (gR ?_))
 iterate 2 refine ad ?_
 refine gP rfl rfl rfl rfl rfl call29 (fun w _ hS=>(by exact rp n hn a ca xs hx b w (Sl.ex ha hS.ext (by simp)) hl (hS.ext.jS hb))) ?_
 refine aC rfl rfl rfl rfl (jm (v:=false) (by decide)) ?_
 refine ai ?_;refine gE ?_
 refine gT func14 fun w' hS=>?_
 exact ⟨hS.ext,rfl⟩
theorem rA:(Try.prog.info? 38).map (fun i=>(i.zero,i.size,i.bytes))=some (some (.agg #[.slice none 0 0,.slice none 0 0]),2,48):=by kernel_rfl
theorem qQ {rs:List RV} {r:RV}:rs.flatMap RV.cells++RV.cells r=(rs++[r]).flatMap RV.cells:=by simp
def rY (w w':World) (n F R:Nat) (xs:List Nat) (v:Value):Prop:=∃(nn ff ll:Int) (A:Option Addr) (rs:List RV) (c:Nat) (H:Hl) (e:Int),v=.tuple #[.agg (bt nn ff ll A rs.length c),.int .i64 e]∧c3 w w' H∧lh 38 31 3 34 H A rs∧((xs=[]∧e=3∧ll=0∧rs=[])∨(xs≠[]∧e=0∧nn=n∧ff=2*(n:Int)∧ll=(R:Int)+1∧rs.map RV.d=eD n F R xs))
set_option maxRecDepth 8000 in
set_option maxHeartbeats 1000000 in
theorem iM (n F R:Nat) (hn:2≤n∧n≤3) (hF:F≤n) (hR:R≤3) (A:Option Addr) (cA:Nat) (xs:List Nat) (hx:∀x∈xs,x<2^n) (w:World) (hA:Sl w A (xs.map NI)) (hxl:xs.length≤2) (hlim:xs.length*(aW n R n [] F).length≤64) (hlim1:(aW n R n [] F).length≤64) (hp0:0<(aW n R n [] F).length):
    Cn Try.prog 8 [.int .i64 n,.int .i64 F,.int .i64 R,.slice A xs.length cA] w (fun v w'=>rY w w' n F R xs v):=by
  obtain ⟨i0,hi0,hz0,hsz0,hby0⟩:=info_parts rA
  have hpw:2^n≤8:=Nat.pow_le_pow_right (by omega) hn.2
  refine Cn.of func8 rfl rfl ?_
  refine gS (gR ?_)
  refine aa.bx rfl rfl rfl rfl (fun b4=>?_)
  refine aa.dc rfl rfl rfl (fun _=>zeroValue27 _) (fun b8=>?_)
  refine ai ?_;refine gE (gS (gR ?_));refine aj xl 1 ?_
  iterate 2 refine ad ?_
  refine gM rfl rfl rfl rfl rfl call13 (fun w _ hS=>(by exact kE n F R hn hF hR hlim1 w)) ?_
  rintro v w1 w2 Y' hS he ⟨u,rfl,qp,cp,outs,spp,Hp,rfl,hop,hpm,hnew⟩
  refine ⟨_,hS.cY (pre:=[_]) he hnew,?_⟩
  have hol:=hop.len hpm
  have hoin:=hop.fA
  refine ad ?_
  iterate 2 refine gZ ?_
  iterate 2 refine ai ?_
  refine gE (gS (gS (gR ?_)));refine ad ?_
  refine aC rfl rfl rfl rfl (jl (v:=false) rfl) ?_
  refine gE (aa.aP rfl (gK (gS (gS (gR ?_)))));refine ad ?_;refine cq xy ?_;refine aL dU ?_;refine gE ?_
  refine gC (fun hc=>?_) fun hc=>?_
  ·
   have hx0:xs=[]:=by
     have h:((xs.length:Int)==0)=true:=hc
     have:=eq_of_beq h
     exact List.eq_nil_of_length_eq_zero (by omega)
   refine gS (gR ?_)
   refine aa.v (ah.eM rfl rfl rfl rfl (bd27 (c:=[_,_,_,_]) rfl)) ?_
   refine aa.bV rfl rfl rfl rfl xz 1 rfl rfl rfl rfl ?_
   refine ai ?_;refine gE ?_
   refine aa.cC Try.f8 func8 _ (ax.cell rfl xK xz (j:=1) rfl rfl (ax.tmp rfl ax.nil)) (fun w' hS=>?_)
   exact ⟨hS.ext,0,0,0,none,[],0,[],3,rfl,.zero,⟨.inl ⟨rfl,rfl⟩,fun _ h=>by cases h⟩,.inl ⟨hx0,rfl,rfl,rfl⟩⟩
  have hx0:xs≠[]:=by
    have h:((xs.length:Int)==0)=false:=hc
    intro e;rw [e] at h;cases h
  have hxp:0<xs.length:=List.length_pos_iff.2 hx0
  refine gK (gS (gS (gR ?_)));refine ad ?_
  refine aa.v (ah.eg rfl rfl rfl rfl rfl) ?_
  refine aa.dO (fs:=[]) (v:=.bool false) rfl rfl rfl rfl rfl (fun _ _=>call14 _ _) (fun w _ hS=>by exact rL n hn.2 A cA xs hx b4 w (Sl.ex hA hS.ext (by simp)) (by omega) (hS.get (j:=2) rfl)) ?_
  refine gE (aa.aP rfl (gK (gS (gS (gR ?_)))));refine ad ?_;refine cq xy ?_;refine ad ?_;refine cq xV ?_
  refine aC rfl rfl rfl rfl (gg (a:=(xs.length:Int)) (b:=(outs.length:Int)) (c:=((xs.length*outs.length:Nat):Int)) (by rw [Int.natCast_mul]) (by rw [hol];omega)) ?_
  refine aC rfl rfl rfl rfl (kf (v:=false) (decide_eq_false (by rw [hol];omega))) ?_
  refine gE (aa.aP rfl (gK (gS (gR ?_))))
  iterate 2 refine aj xl 2 ?_
  refine aC rfl rfl rfl rfl (gg (a:=2) (b:=(n:Int)) (c:=2*(n:Int)) rfl (by omega)) ?_
  refine ad ?_;refine aC rfl rfl rfl rfl (aK (by omega)) ?_
  refine aa.v (ah.eM rfl rfl rfl rfl (bd27 (c:=[_,_,_,_]) rfl)) ?_
  refine aa.dc rfl rfl rfl (fun _=>zeroValue27 _) (fun b12=>?_)
  refine aa.bV rfl rfl rfl rfl xz 0 rfl rfl rfl rfl ?_
  refine gE (gS (gS (gR ?_)));refine ad ?_;refine cq xy ?_;refine ad ?_;refine gE (gB ?_)
  refine aa.cw (r4 38 [] []) ?_
  refine aa.c7 (pre:=[_,_,_,_,_]) (pre':=[(some b12,.cells #[.int .i64 n,.int .i64 (2*(n:Int)),.int .i64 ((R:Int)+1),aU (none:Option Nat) ([]:List RV).length 0] 27 (0,0)),((none:Option Nat),r4 38 ([]:List RV) []),(qp,ob CV.v 55 outs spp),(some b4,.cells #[.int .i64 n] 3 (0,0)),(some b8,.cells (bt 0 0 0 none 0 0) 27 (0,0))]) Hp [1,0,2,4,3] (by decide) rfl ?_
  refine aa.loop (σ:=Nat×Option Nat×Nat×List RV×List Value×Hl) (fun z=>[(3,.slice A xs.length cA),(4,ptr b4),(8,ptr b8),(2,.int .i64 R),(9,.int .i64 0),(10,aU qp outs.length cp),(12,ptr b12),(49,.slice A xs.length cA),(50,.int .i64 xs.length),(51,.int .i64 z.1)])
    (fun z=>[(some b12,.cells #[.int .i64 n,.int .i64 (2*(n:Int)),.int .i64 ((R:Int)+1),aU z.2.1 z.2.2.2.1.length z.2.2.1] 27 (0,0)),(z.2.1,r4 38 z.2.2.2.1 z.2.2.2.2.1),(qp,ob CV.v 55 outs spp),(some b4,.cells #[.int .i64 n] 3 (0,0)),(some b8,.cells (bt 0 0 0 none 0 0) 27 (0,0))]++z.2.2.2.2.2)
    (fun z=>z.1≤xs.length∧(z.2.1=none→z.2.2.2.1.length=0∧z.2.2.1=0)∧(z.2.2.2.1.flatMap RV.cells++z.2.2.2.2.1).length=z.2.2.1*2∧z.2.2.2.1.map RV.d=(xs.take z.1).flatMap (eE n F R)∧Hp⊆z.2.2.2.2.2∧∀r∈z.2.2.2.1,r.In 31 3 34 z.2.2.2.2.2)
    (fun z=>xs.length - z.1) (0,none,0,[],[],Hp) ⟨Nat.zero_le _,fun _=>⟨rfl,rfl⟩,rfl,rfl,fun _ h=>h,fun _ h=>by cases h⟩ ⟨rfl,rfl,rfl,rfl,rfl,rfl,rfl,rfl,rfl,rfl,trivial⟩ (List.Sublist.refl _) (fun z hI IH=>?_)
  obtain ⟨j,q,cap,rs,sp,H⟩:=z
  obtain ⟨hj,hq,hcap,hrs,hHp,hin⟩:=hI
  dsimp only at hj hq hcap hrs hHp hin IH⊢
  refine gS (gR ?_);refine aL db ?_;refine gE (gS ?_)
  refine gC (fun hc=>?_) fun hc=>?_
  ·
   have hjx:j<xs.length:=by have h:=of_decide_eq_true hc;omega
   have hxj:=hx _ (List.getElem_mem hjx)
   refine gK (gS (gB (gS (gR ?_))))
   refine aa.v (ah.idx rfl rfl rfl rfl rfl xy xk ⟨_,hA⟩ (by simp) j ⟨rfl,by simpa using hjx⟩) ?_
   refine aa.v (ah.ld rfl rfl rfl rfl xl (fun w _ hS=>(show w.cell? (dk A j)=some (.int .i64 (xs[j]:Int)) by rw [(Sl.ex hA hS.ext (by simp)).cell j (by simpa using hjx)];simp [List.getD_eq_getElem?_getD,hjx,NI]))) ?_
   refine ai ?_;refine gE (gS (gR ?_));refine ad ?_;refine cq xV ?_;refine ad ?_;refine gE (gB ?_)
   refine aa.loop (σ:=Nat×Option Nat×Nat×List RV×List Value×Hl) (fun z=>[(3,.slice A xs.length cA),(4,ptr b4),(8,ptr b8),(2,.int .i64 R),(9,.int .i64 0),(10,aU qp outs.length cp),(12,ptr b12),(49,.slice A xs.length cA),(50,.int .i64 xs.length),(51,.int .i64 j),(14,.int .i64 (xs[j]:Int)),(55,aU qp outs.length cp),(56,.int .i64 outs.length),(57,.int .i64 z.1)])
     (fun z=>[(some b12,.cells #[.int .i64 n,.int .i64 (2*(n:Int)),.int .i64 ((R:Int)+1),aU z.2.1 z.2.2.2.1.length z.2.2.1] 27 (0,0)),(z.2.1,r4 38 z.2.2.2.1 z.2.2.2.2.1),(qp,ob CV.v 55 outs spp),(some b4,.cells #[.int .i64 n] 3 (0,0)),(some b8,.cells (bt 0 0 0 none 0 0) 27 (0,0))]++z.2.2.2.2.2)
     (fun z=>z.1≤outs.length∧(z.2.1=none→z.2.2.2.1.length=0∧z.2.2.1=0)∧(z.2.2.2.1.flatMap RV.cells++z.2.2.2.2.1).length=z.2.2.1*2∧z.2.2.2.1.map RV.d=(xs.take j).flatMap (eE n F R)++(eE n F R xs[j]).take z.1∧Hp⊆z.2.2.2.2.2∧∀r∈z.2.2.2.1,r.In 31 3 34 z.2.2.2.2.2)
     (fun z=>outs.length - z.1) (0,q,cap,rs,sp,H) ⟨Nat.zero_le _,hq,hcap,by simpa using hrs,hHp,hin⟩ ⟨rfl,rfl,rfl,rfl,rfl,rfl,rfl,rfl,rfl,rfl,rfl,rfl,rfl,rfl,trivial⟩ (List.Sublist.refl _) (fun z hI IH2=>?_)
   obtain ⟨p,q2,cap2,rs2,sp2,H2⟩:=z
   obtain ⟨hp,hq2,hcap2,hrs2,hHp2,hin2⟩:=hI
   dsimp only at hp hq2 hcap2 hrs2 hHp2 hin2 IH2⊢
   have hrl:rs2.length≤64:=by
     have h1:=congrArg List.length hrs2
     rw [List.length_map,List.length_append,eZ,List.length_take,List.length_take,fb] at h1
     have h2:(min j xs.length+1)*(aW n R n [] F).length≤xs.length*(aW n R n [] F).length:=Nat.mul_le_mul_right _ (by omega)
     have h3:(min j xs.length+1)*(aW n R n [] F).length=min j xs.length*(aW n R n [] F).length+(aW n R n [] F).length:=Nat.succ_mul ..
     omega
   refine gS (gR ?_);refine aL db ?_;refine gE (gS ?_)
   refine gC (fun hc=>?_) fun hc=>?_
   ·
    have hpo:p<outs.length:=by have h:=of_decide_eq_true hc;omega
    have hpp:p<(aW n R n [] F).length:=by rw [←hol];exact hpo
    obtain ⟨bp,rfl⟩:∃b,qp=some b:=by
      cases qp with
      |none=>have:=(hop.nil rfl).1;omega
      |some b=>exact ⟨b,rfl⟩
    have hcf:outs[p].f=(aW n R n [] F)[p]:=by
      have h1:(outs.map CV.f)[p]?=some outs[p].f:=by rw [List.getElem?_map,List.getElem?_eq_getElem hpo];rfl
      rw [hpm,List.getElem?_eq_getElem hpp] at h1
      exact (Option.some.inj h1).symm
    obtain ⟨cv,hcv⟩:∃cv,cv=outs[p]:=⟨_,rfl⟩
    have hcin:cv.In 78 H2:=by rw [hcv];exact (hoin _ (List.getElem_mem hpo)).mono hHp2
    have hok:=iV (n:=n) (R:=R) (m:=n) (l:=[]) (left:=F) (by simp) (fun _ h=>by cases h) (aW n R n [] F)[p] (List.getElem_mem hpp)
    rw [←hcf,←hcv] at hok
    have hpr:p<(eE n F R xs[j]).length:=by rw [fb];exact hpp
    have hrd:(eE n F R xs[j]).take (p+1)=(eE n F R xs[j]).take p++[nh n xs[j] cv.f (R+1)]:=by
      rw [List.take_succ_eq_append_getElem hpr,hcv,hcf]
      congr 1;simp [eE]
    refine gK (gS (gB (gS (gR ?_))))
    refine aa.v (ah.cD rfl rfl rfl rfl rfl xV sizeOf55 (p) ⟨rfl,hpo⟩) ?_
    skip
    refine aa.v (ah.nL CV.v (CV.mk none 0 []) rfl rfl rfl rfl isAgg55 2 rfl hpo) ?_
    have hgd:outs.getD p (CV.mk none 0 [])=cv:=by simp [List.getD_eq_getElem?_getD,hpo,hcv]
    rw [hgd]
    refine ai ?_;refine gE ?_
    refine aa.rK 6 12 [(some b12,.cells #[.int .i64 n,.int .i64 (2*(n:Int)),.int .i64 ((R:Int)+1),aU q2 rs2.length cap2] 27 (0,0)),(some b4,.cells #[.int .i64 n] 3 (0,0))] sL mixed rfl ?_
    refine oG.v (ah.mr rfl rfl rfl rfl xw rfl (by exact xD) 3 rfl) ?_
    refine oG.v (ah.nK rfl rfl rfl rfl xF 0 rfl rfl) ?_
    refine oG.v (ah.nK rfl rfl rfl rfl xl 1 rfl rfl) ?_
    iterate 3 refine oG.v (ah.mv rfl rfl rfl rfl) ?_
    refine oG.nil ?_
    refine Tl.one (d:=67) rfl ?_
    refine dX.call _ rfl rfl rfl rfl rfl (fun _ _=>call16 _ _) (fun w _ hS=>(by exact pL n R xs[j] hn hR (by omega) cv.a cv.c cv.f hok.1 (fun c hc=>Nat.lt_of_lt_of_le (hok.2 c hc) hpw) w ((hcin.mono (fun z hz=>by simp [hz])).at hS))) ?_
    rintro v w1 w2 Y' hS he ⟨r,H3,rfl,hrd2,hnew3,hrin⟩
    refine ⟨_,hS.cY (pre:=[]) he hnew3,sL,?_⟩
    refine Tl.one (d:=68) rfl ?_
    refine dX.fR (c:=[_,_]) rfl rfl rfl rfl xB xH zeroValue38 rfl rfl (fun b68=>⟨by repeat (first|exact List.Sublist.refl _|exact List.nil_sublist _|refine List.Sublist.cons_cons _ ?_|refine List.Sublist.cons _ ?_),?_⟩)
    refine Tl.sw [8,9,10] rfl rfl ?_
    refine aa.app 2 (xs:=rs2.flatMap RV.cells) (sp:=sp2) (nx:=rs2.length) (q:=q2) (news:=RV.cells r) (spn:=[]) rfl rfl rfl rfl rfl xB hi0 hz0 hsz0 rfl hq2 2 rfl 0 rfl s6 hcap2 rfl (by decide) (fun u hu=>by
      simp only [RV.cells,List.mem_cons,List.not_mem_nil,or_false] at hu
      rcases hu with rfl|rfl<;>rfl) (by unfold maxLen;omega) (by rw [hby0];omega) (fun b' sp' cap' hlen=>?_)
    rw [qQ] at hlen⊢
    rw [show rs2.length+1=(rs2++[r]).length by simp]
    refine ak xw xD 3 ?_
    refine aa.st rfl rfl rfl rfl xD rfl 1 rfl rfl ?_
    refine gE (cu (gR ?_));refine aC rfl rfl rfl rfl (aK (by omega)) ?_;refine ad ?_;refine gE ?_
    refine IH2 (p+1,some b',cap',rs2++[r],sp',H2++H3) _ _ ⟨hpo,(fun e=>by cases e),hlen,?_,fun z hz=>List.mem_append_left _ (hHp2 hz),fun y hy=>?_⟩ (by dsimp only;omega) ⟨rfl,rfl,rfl,rfl,rfl,rfl,rfl,rfl,rfl,rfl,rfl,rfl,rfl,rfl,trivial⟩ (.cons _ (List.Sublist.refl _))
    · dsimp only;rw [List.map_append,hrs2,hrd,←hrd2,List.append_assoc];rfl
    rcases List.mem_append.1 hy with hy|hy
    · exact (hin2 y hy).mono (fun z hz=>List.mem_append_left _ hz)
    rw [List.mem_singleton.1 hy];exact hrin.mono (fun z hz=>List.mem_append_right _ hz)
   have hpo:¬p<outs.length:=by have h:=of_decide_eq_false hc;omega
   obtain rfl:outs.length=p:=by omega
   have et:(eE n F R xs[j]).take outs.length=eE n F R xs[j]:=List.take_of_length_le (by rw [fb];omega)
   rw [et] at hrs2
   refine aa.exit rfl (cu (gR ?_))
   refine aC rfl rfl rfl rfl (aK (by omega)) ?_;refine ad ?_;refine gE ?_
   exact IH (j+1,q2,cap2,rs2,sp2,H2) _ _ ⟨hjx,hq2,hcap2,by dsimp only;rw [hrs2,List.take_succ_eq_append_getElem hjx,List.flatMap_append];simp,hHp2,hin2⟩ (by dsimp only;omega) ⟨rfl,rfl,rfl,rfl,rfl,rfl,rfl,rfl,rfl,rfl,trivial⟩ (List.Sublist.refl _)
  have hjx:¬j<xs.length:=by have h:=of_decide_eq_false hc;omega
  obtain rfl:xs.length=j:=by omega
  rw [List.take_length] at hrs
  obtain ⟨bq,rfl⟩:∃b,q=some b:=by
    cases q with
    |none=>
      have h1:=(hq rfl).1
      have h2:=congrArg List.length hrs
      rw [List.length_map,h1,eZ] at h2
      have:=Nat.mul_pos hxp hp0
      omega
    |some b=>exact ⟨b,rfl⟩
  refine aa.exit rfl (gS (gR ?_))
  refine aa.v (ah.eR rfl rfl rfl rfl xK 0 rfl xz rfl) ?_
  refine aa.bV rfl rfl rfl rfl xz 4 rfl rfl rfl rfl ?_
  refine ai ?_;refine gE ?_
  refine aa.cC Try.f8 func8 _ (ax.cell rfl xK xz (j:=4) rfl rfl (ax.tmp rfl ax.nil)) (fun w' hS=>?_)
  exact ⟨hS.ext,n,2*(n:Int),(R:Int)+1,some ⟨bq,0,none⟩,rs,cap,(some bq,r4 38 rs sp)::H,0,rfl,c3.of (hS.c7 (pre:=[_,_,_,_,_]) (pre':=[_]) (HR:=H) [1] (by decide) rfl),⟨.inr ⟨bq,sp,rfl,List.mem_cons_self ..⟩,fun r hr=>(hin r hr).mono (List.subset_cons_self _ _)⟩,.inr ⟨hx0,rfl,rfl,rfl,rfl,hrs⟩⟩
end Go.Proofs.Ytkpknmgofmohbaa
