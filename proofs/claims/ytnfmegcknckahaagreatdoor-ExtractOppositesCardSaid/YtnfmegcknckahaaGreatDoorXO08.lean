/- What calls of the program return, under the conditions that each theorem states. -/
import Derived.Test.YtnfmegcknckahaaGreatDoorXO06
import Derived.Test.YtnfmegcknckahaaGreatDoorXO07
import Derived.Test.YtnfmegcknckahaaGreatDoorXO03
import Derived.Test.YtnfmegcknckahaaGreatDoorXO04
namespace Go.Proofs.YtnfmegcknckahaaGreatDoor
open Go.RowKit Go.Proofs.Wit Tryz
def pt (b:Nat):Value:=.pointer (some ⟨b,0,none⟩)
def eH (bD bf bF bN bO mD mN:Nat) (a:Option Addr) (ca n:Nat) (q:Option Nat) (cap:Nat) (ts:List Tr) (sp:List Value) (L:List (Int×Nat)):Hl:=
 [(some bD,.cells #[.map (some mD)] 158 (0,0)),(some bf,.cells #[.slice a n ca] 22 (0,0)),(some bF,.cells #[.func (.func 153) #[] #[pt bD,pt bf,pt bF,pt bN,pt bO]] 96 (0,0)),(some bN,.cells #[.map (some mN)] 157 (0,0)),(some bO,.cells #[cK q (aS ts).length cap] 22 (0,0)),(q,eO 66 (aS ts) sp),(some mD,lh (Value.int .i64) EA L),(some mN,lh NV.v EA (aS ts).zipIdx)]
def nD (f:List NV) (i bD bf bF bN bO mD mN:Nat) (a:Option Addr) (ca n:Nat) (ts:List Tr) (L:List (Int×Nat)) (v:Value) (h':Hl):Prop:=
 ∃q' cap' sp' L',h'=eH bD bf bF bN bO mD mN a ca n q' cap' (visit (aa f i) ts) sp' L'∧vZ q' cap' (visit (aa f i) ts) sp'∧ki f (visit (aa f i) ts) L'∧(∀j:Nat,i<j→cG (fun a b:Int=>a==b) L' (j:Int)=cG (fun a b:Int=>a==b) L (j:Int))∧v=.int .i64 ((visit (aa f i) ts).idxOf (aa f i):Int)
set_option maxRecDepth 8000 in
theorem BA (f:List NV) (a:Option Addr) (ca:Nat) (hf:bd f) (hfl:f.length≤10000) (bD bf bF bN bO mD mN:Nat):∀(i:Nat),i<f.length→∀(w:World) (q:Option Nat) (cap:Nat) (ts:List Tr) (sp:List Value) (L:List (Int×Nat)),
    iB w (eH bD bf bF bN bO mD mN a ca f.length q cap ts sp L)→FA w a f→(∀b o,a=some ⟨b,o,none⟩→b∉cI (eH bD bf bF bN bO mD mN a ca f.length q cap ts sp L))→vZ q cap ts sp→ts⊆trees f→ki f ts L→
    qv Tryz.prog 153 [.int .i64 i,pt bD,pt bf,pt bF,pt bN,pt bO] w (eH bD bf bF bN bO mD mN a ca f.length q cap ts sp L) (nD f i bD bf bF bN bO mD mN a ca f.length ts L):=by
  obtain ⟨iN,hiN,hzN,hszN,hbyN⟩:=info_parts Cd
  have hKI:=jJ.int (P:=Tryz.prog) (kt:=3) (kd:=.i64) underlying3
  have hKN:jJ Tryz.prog 66 NV.v (fun a b=>a==b):=by
    obtain ⟨fs,hu,hfs⟩:=vu
    exact jJ.node hu hfs underlying3 Ja xI
  intro i
  induction i using Nat.strongRecOn with
  |_ i IHi=>
  intro hi w q cap ts sp L hh ha hsep ho hts hd
  have hok:=hf i hi
  have hclo:=hf.ord.oL
  have hmem:=l4 hi
  have has:Cv (cI (eH bD bf bF bN bO mD mN a ca f.length q cap ts sp L)) w a f:=⟨ha.at_,hsep⟩
  refine qv.of hh func153 rfl rfl ?_
  unfold eH at has⊢
  refine gS (gR ?_);refine ai ?_;refine gE (gS (gS (gR ?_)));refine aq isAgg158 0 ?_;refine ah ?_
  refine ab.v (ae.A7 (ev:=EA) (a:=(i:Int)) (z:=.int .i64 0) (L:=L) hKI rfl rfl rfl rfl rfl underlying158 (fun _=>Jv _) 6 rfl) ?_
  refine ah ?_
  iterate 2 refine fW ?_
  iterate 2 refine ai ?_
  refine gE (gS (gR ?_));refine ah ?_;refine gE ?_
  refine gC (fun hc=>?_) fun hc=>?_
  ·
   obtain ⟨v,hv⟩:∃v,cG (fun a b:Int=>a==b) L (i:Int)=some v:=by
     cases h:cG (fun a b:Int=>a==b) L (i:Int) with
     |none=>rw [h] at hc;simp at hc
     |some v=>exact ⟨v,rfl⟩
   obtain ⟨hm,hix⟩:=hd.at_ i v hv
   refine gS (gR ?_);refine ah ?_;refine ai ?_;refine gE ?_
   refine gT func153 fun w' hS=>?_
   refine ⟨_,⟨q,cap,sp,L,?_,?_,?_,fun j _=>rfl,?_⟩,hS⟩
   · rw [fZ hm];rfl
   · rw [fZ hm];exact ho
   · rw [fZ hm];exact hd
   rw [fZ hm,←hix,hv];rfl
  have hno:cG (fun a b:Int=>a==b) L (i:Int)=none:=by
    cases h:cG (fun a b:Int=>a==b) L (i:Int) with
    |none=>rfl
    |some v=>rw [h] at hc;simp at hc
  refine gK (gS (gR ?_));refine aq Jn 1 ?_;refine ah ?_
  refine ab.v (ae.ez rfl rfl rfl rfl rfl Ji Jd ⟨_,(has).at_⟩ (aD (enc:=NV.cells) (sz:=6) (fun _=>rfl)) (by decide) (i) ⟨rfl,hi⟩) ?_
  refine ab.v (ae.nR (cs:=NV.cells f[i]) rfl rfl rfl rfl Jt Jd (fun w _ hS=>Sl.many (enc:=NV.cells) (sz:=6) (has.ay hS.ext).at_ (fun _=>rfl) hi)) ?_
  refine ab.eN rfl rfl rfl (fun _=>Jq _) (fun b10=>?_)
  refine ab.dG rfl rfl rfl rfl Jd 0 rfl rfl rfl rfl ?_
  refine gE (gS (gR ?_));refine al Jb I9 0 ?_;refine aq Ja 0 ?_
  refine gP rfl rfl rfl rfl rfl call105 (fun w _ hS=>(by exact gV f[i].op w)) ?_
  refine ah ?_
  iterate 2 refine fW ?_
  refine ab.eN rfl rfl rfl (fun _=>JZ _) (fun b11=>?_)
  refine ab.dG rfl rfl rfl rfl Jl 0 rfl rfl rfl rfl ?_
  refine ab.pick (pre:=[_,_,_,_,_,_,_,_,_,_]) (pre':=eH bD bf bF bN bO mD mN a ca f.length q cap ts sp L++[(some b11,.cells (qJ f[i].op).cells 122 (0,0)),(some b10,.cells (NV.cells f[i]).toArray 66 (0,0))]) [2,3,4,5,6,7,8,9,0,1] (by decide) rfl ?_
  unfold eH
  refine ai ?_;refine gE (gS ?_)
  refine ab.jL (α:={z:List Tr×NV×Option Nat×Nat×List Value×List (Int×Nat) // z.1=qt f f[i] ts∧z.2.1=zR f f[i] ts∧vZ z.2.2.1 z.2.2.2.1 z.1 z.2.2.2.2.1∧ki f z.1 z.2.2.2.2.2∧∀j:Nat,i≤j→cG (fun a b:Int=>a==b) z.2.2.2.2.2 (j:Int)=cG (fun a b:Int=>a==b) L (j:Int)})
    (fun _=>[(0,.int .i64 i),(1,pt bD),(2,pt bf),(3,pt bF),(4,pt bN),(5,pt bO),(10,pt b10),(11,pt b11)]) (fun z=>eH bD bf bF bN bO mD mN a ca f.length z.1.2.2.1 z.1.2.2.2.1 z.1.1 z.1.2.2.2.2.1 z.1.2.2.2.2.2++[(some b11,.cells (qJ f[i].op).cells 122 (0,0)),(some b10,.cells (NV.cells z.1.2.1).toArray 66 (0,0))]) (fun z=>?_) (fun K=>?_)
  · -- what comes behind
   obtain ⟨⟨ts1,n1,q1,cap1,sp1,L1⟩,hts1,hn1,ho1,hd1,hkeep1⟩:=z
   dsimp only at hts1 hn1 ho1 hd1 hkeep1⊢
   obtain ⟨hc1,hnd1,hp1,hs1⟩:=CF hi hf ho.oL ho.nd hts
   rw [←hts1] at hc1 hnd1 hp1 hs1
   unfold eH
   refine gS ?_
   refine ab.jL (α:={z:List Tr×NV×Option Nat×Nat×List Value×List (Int×Nat) // z.1=fL (aa f i) ts∧z.2.1=br (fL (aa f i) ts) (aa f i)∧vZ z.2.2.1 z.2.2.2.1 z.1 z.2.2.2.2.1∧ki f z.1 z.2.2.2.2.2∧∀j:Nat,i≤j→cG (fun a b:Int=>a==b) z.2.2.2.2.2 (j:Int)=cG (fun a b:Int=>a==b) L (j:Int)})
     (fun _=>[(0,.int .i64 i),(1,pt bD),(2,pt bf),(3,pt bF),(4,pt bN),(5,pt bO),(10,pt b10),(11,pt b11)]) (fun z=>eH bD bf bF bN bO mD mN a ca f.length z.1.2.2.1 z.1.2.2.2.1 z.1.1 z.1.2.2.2.2.1 z.1.2.2.2.2.2++[(some b11,.cells (qJ f[i].op).cells 122 (0,0)),(some b10,.cells (NV.cells z.1.2.1).toArray 66 (0,0))]) (fun z=>?_) (fun K=>?_)
   · -- what comes behind
    obtain ⟨⟨vs,m,q2,jO,oT,L2⟩,hvs,hm2,ho2,hd2,hkeep2⟩:=z
    dsimp only at hvs hm2 ho2 hd2 hkeep2⊢
    obtain ⟨hc2,hnd2,hp2,hs2,hk2⟩:=CE hi hf ho.oL ho.nd hts
    have hput:=v9 (t:=aa f i) ho.oL ho.nd
    rw [←hvs] at hc2 hnd2 hp2 hs2 hk2 hput hm2
    have hno2:cG (fun a b:Int=>a==b) L2 (i:Int)=none:=by rw [hkeep2 i (Nat.le_refl _),hno]
    have hVis:=ir (aa f i) ho.oL ho.nd
    have hlT:vs.length≤10000:=by have:=Ao ho2.nd hs2;omega
    have hnl:(aS vs).length=vs.length:=jE
    unfold eH
    refine gS (gR ?_);refine aq isAgg157 3 ?_
    refine ab.v (ae.iR rfl rfl rfl rfl Jt 9 rfl Jd rfl) ?_
    refine ab.v (ae.A7 (ev:=EA) (a:=m) (z:=.int .i64 0) (L:=(aS vs).zipIdx) hKN rfl rfl rfl rfl rfl underlying157 (fun _=>Jv _) 7 rfl) ?_
    refine ah ?_
    iterate 2 refine fW ?_
    iterate 2 refine ai ?_
    refine gE (gS (gS (gR ?_)));refine ah ?_;refine fe bG ?_;refine gE ?_
    refine gC (fun hc=>?_) fun hc=>?_
    ·
     have hnm:aa f i∉vs:=fun hm=>by
       rw [hm2,td ho2.oL ho2.nd ho2.wf hm] at hc;simp at hc
     have hv0:visit (aa f i) ts=vs++[aa f i]:=by rw [←hput];exact if_neg hnm
     have hzz:=xn hc2 hk2
     rw [←hm2] at hzz
     have hsn:=ku hc2 hk2
     rw [←hm2] at hsn
     have e1:(aS vs).flatMap NV.cells++NV.cells m=(aS (vs++[aa f i])).flatMap NV.cells:=by rw [hsn,List.flatMap_append];simp
     have e2:(aS vs).length+1=(aS (vs++[aa f i])).length:=by rw [hsn];simp
     have hnew:cG (fun a b:NV=>a==b) (aS vs).zipIdx m=none:=by rw [hm2];exact te hc2 ho2.wf (nH f i) hk2 hnm
     have hpre:vs<+:vs++[aa f i]:=List.prefix_append _ _
     have hix:(vs++[aa f i]).idxOf (aa f i)=vs.length:=wB hnm
     refine gS (gR ?_);refine aq Jn 4 ?_;refine dY Ji ?_;refine ai ?_;refine gE (gS (gR ?_));refine aq Jn 4 ?_
     refine ab.v (ae.iR rfl rfl rfl rfl Jt 9 rfl Jd rfl) ?_
     refine ab.eh (c:=[_,_,_,_,_,_]) rfl rfl rfl rfl Ji Jd Jq rfl rfl (fun b59=>?_)
     refine ab.app 6 (xs:=(aS vs).flatMap NV.cells) (sp:=oT) (nx:=(aS vs).length) (q:=q2) (news:=NV.cells m) (spn:=[]) rfl rfl rfl rfl rfl Ji hiN hzN hszN rfl ho2.nil 6 rfl 0 rfl ow ho2.cap rfl (by decide) (fun u hu=>by
       simp only [NV.cells,List.mem_cons,List.not_mem_nil,or_false] at hu
       rcases hu with rfl|rfl|rfl|rfl|rfl|rfl<;>rfl) (by unfold maxLen;omega) (by rw [hbyN];omega) (fun b' sp' cap' hlen=>?_)
     rw [e1] at hlen
     simp only [e1,e2]
     refine ab.st rfl rfl rfl rfl Jj rfl 5 rfl rfl ?_
     refine gE (gR ?_);refine aq isAgg157 4 ?_
     refine ab.v (ae.iR rfl rfl rfl rfl Jt 10 rfl Jd rfl) ?_
     refine ah ?_
     refine ab.pK hKN rfl (.inl rfl) rfl rfl rfl (a:=m) (v:=(aS vs).length) rfl rfl underlying157 8 rfl hnew ?_
     rw [←hzz]
     refine gE (gS (gR ?_));refine aq isAgg158 1 ?_
     iterate 2 refine ah ?_
     refine ab.pK hKI rfl (.inl rfl) rfl rfl rfl (a:=(i:Int)) (v:=(aS vs).length) rfl rfl underlying158 7 rfl hno2 ?_
     refine gE (gS (gR ?_));refine ah ?_;refine ai ?_;refine gE ?_
     refine gT func153 fun w' hS=>?_
     have hd3:=(hd2.mono hpre).ins (i:=i) (by rw [←hv0];exact hVis.mem)
     rw [hix,←hnl] at hd3
     refine ⟨_,⟨some b',cap',sp',L2++[((i:Int),(aS vs).length)],rfl,?_,by rw [hv0];exact hd3,fun j hj=>by rw [om (by omega)];exact hkeep2 j (by omega),?_⟩,?_⟩
     · rw [hv0]
       exact ⟨(fun e=>by cases e),hlen,hc2.snoc hk2,kq hnd2 hnm,fun u hu=>by
         rcases List.mem_append.1 hu with hu|hu
         · exact ho2.wf u hu
         rw [List.mem_singleton.1 hu];exact nH f i⟩
     · rw [hv0,hix,←hnl];rfl
     rw [hv0]
     exact hS.dH (.cons _ (List.sublist_append_left (eH bD bf bF bN bO mD mN a ca f.length (some b') cap' (vs++[aa f i]) sp' (L2++[((i:Int),(aS vs).length)])) _))
    have hm:aa f i∈vs:=Classical.byContradiction (fun hnm=>by
      rw [hm2,te hc2 ho2.wf (nH f i) hk2 hnm] at hc;simp at hc)
    have hv0:visit (aa f i) ts=vs:=by rw [←hput];exact if_pos hm
    have hget:cG (fun a b:NV=>a==b) (aS vs).zipIdx m=some (vs.idxOf (aa f i)):=by rw [hm2];exact td hc2 hnd2 ho2.wf hm
    refine gK (gS (gR ?_));refine aq isAgg158 0 ?_
    iterate 2 refine ah ?_
    refine ab.pK hKI rfl (.inl rfl) rfl rfl rfl (a:=(i:Int)) (v:=vs.idxOf (aa f i)) rfl (by rw [hget];rfl) underlying158 6 rfl hno2 ?_
    refine gE (gS (gR ?_));refine ah ?_;refine ai ?_;refine gE ?_
    refine gT func153 fun w' hS=>?_
    refine ⟨_,⟨q2,jO,oT,L2++[((i:Int),vs.idxOf (aa f i))],rfl,by rw [hv0];exact ho2,by rw [hv0];exact hd2.ins hm,fun j hj=>by rw [om (by omega)];exact hkeep2 j (by omega),?_⟩,?_⟩
    · rw [hv0,hget];rfl
    rw [hv0]
    exact hS.dH (List.sublist_append_left (eH bD bf bF bN bO mD mN a ca f.length q2 jO vs oT (L2++[((i:Int),vs.idxOf (aa f i))])) _)
   · -- the first part
    refine gS (gR ?_);refine al Jf Jc 1 ?_;refine aq Je 8 ?_;refine gE ?_
    refine gC (fun hc=>?_) fun hc=>?_
    ·
     have hY:cm f[i].op=true:=hc
     have hyr:=hok.y hY
     obtain ⟨y,hy⟩:∃y:Nat,f[i].y=(y:Int):=⟨f[i].y.toNat,by omega⟩
     have hyi:y<i:=by omega
     have hn1y:n1.y=(y:Int):=by rw [hn1,←hy];rfl
     obtain ⟨e1,e2⟩:=EH hi hf ho.oL ho.nd hY
     rw [←hts1,←hn1,hy,Int.toNat_natCast] at e2
     rw [←hts1,hy,Int.toNat_natCast] at e1
     rw [e1] at e2
     refine gR ?_;refine aq isAgg96 2 ?_;refine al Jb I9 5 ?_;refine aq Ja 9 ?_
     refine ab.dH (h':=eH bD bf bF bN bO mD mN a ca f.length q1 cap1 ts1 sp1 L1++[(some b11,.cells (qJ f[i].op).cells 122 (0,0)),(some b10,.cells (NV.cells n1).toArray 66 (0,0))]) (List.Sublist.refl _) ?_
     refine ab.iG (h:=eH bD bf bF bN bO mD mN a ca f.length q1 cap1 ts1 sp1 L1) (hF:=[(some b11,.cells (qJ f[i].op).cells 122 (0,0)),(some b10,.cells (NV.cells n1).toArray 66 (0,0))]) (fs:=[]) (cs:=[pt bD,pt bf,pt bF,pt bN,pt bO]) (fun _ v h'=>nD f y bD bf bF bN bO mD mN a ca f.length ts1 L1 v h') rfl rfl rfl rfl rfl (fun _ _=>call153 _ _) (fun w1 Y' hS=>?_) (fun w1 v h1 hR=>?_)
     · have hS1:=hS.dH (List.sublist_append_left (eH bD bf bF bN bO mD mN a ca f.length q1 cap1 ts1 sp1 L1) _)
       have:=IHi y hyi (by omega) w1 q1 cap1 ts1 sp1 L1 hS1.has ⟨(has.ay hS.ext).at_⟩ (vm ha (by omega) hsep hS1) ho1 hs1 hd1
       rw [←hn1y] at this
       exact this
     obtain ⟨q3,cap3,sp3,L3,rfl,ho3,hd3,hkeep3,rfl⟩:=hR
     rw [e1] at ho3 hd3⊢
     unfold eH
     refine al Jb I9 5 ?_
     refine ab.st rfl rfl rfl rfl I9 rfl 9 rfl rfl ?_
     refine gE ?_
     exact K ⟨(fL (aa f i) ts,{n1 with y:=((fL (aa f i) ts).idxOf (aa f y):Int)},q3,cap3,sp3,L3),rfl,e2,ho3,hd3,fun j hj=>by rw [←hkeep1 j hj];exact hkeep3 j (by omega)⟩ _ _ sF (fun _ _ hS=>hS)
    have hY:cm f[i].op=false:=hc
    obtain ⟨e1,e2⟩:=H8 hi hf (ts:=ts) hY
    rw [←hts1] at e1
    rw [←hn1] at e2
    refine gK ?_
    skip
    exact K ⟨(ts1,n1,q1,cap1,sp1,L1),e1,e2,ho1,hd1,hkeep1⟩ _ _ sF (fun _ _ hS=>hS)
  · -- the first part
   refine gS (gR ?_);refine al Jf Jc 0 ?_;refine aq Je 8 ?_;refine gE ?_
   refine gC (fun hc=>?_) fun hc=>?_
   ·
    have hX:cF f[i].op=true:=hc
    have hxr:=hok.x hX
    obtain ⟨x,hx⟩:∃x:Nat,f[i].x=(x:Int):=⟨f[i].x.toNat,by omega⟩
    have hxi:x<i:=by omega
    have e1:visit (aa f x) ts=qt f f[i] ts:=by rw [qt,if_pos hX,hx];rfl
    have e2:zR f f[i] ts={f[i] with x:=((qt f f[i] ts).idxOf (aa f x):Int)}:=by rw [zR,if_pos hX,hx];rfl
    refine gR ?_;refine aq isAgg96 2 ?_;refine al Jb I9 4 ?_;refine aq Ja 9 ?_
    refine ab.dH (h':=eH bD bf bF bN bO mD mN a ca f.length q cap ts sp L++[(some b11,.cells (qJ f[i].op).cells 122 (0,0)),(some b10,.cells (NV.cells f[i]).toArray 66 (0,0))]) (List.Sublist.refl _) ?_
    refine ab.iG (h:=eH bD bf bF bN bO mD mN a ca f.length q cap ts sp L) (hF:=[(some b11,.cells (qJ f[i].op).cells 122 (0,0)),(some b10,.cells (NV.cells f[i]).toArray 66 (0,0))]) (fs:=[]) (cs:=[pt bD,pt bf,pt bF,pt bN,pt bO]) (fun _ v h'=>nD f x bD bf bF bN bO mD mN a ca f.length ts L v h') rfl rfl rfl rfl rfl (fun _ _=>call153 _ _) (fun w1 Y' hS=>?_) (fun w1 v h1 hR=>?_)
    · have hS1:=hS.dH (List.sublist_append_left (eH bD bf bF bN bO mD mN a ca f.length q cap ts sp L) _)
      have:=IHi x hxi (by omega) w1 q cap ts sp L hS1.has ⟨(has.ay hS.ext).at_⟩ (has.ay hS.ext).sep ho hts hd
      rw [←hx] at this
      exact this
    obtain ⟨q3,cap3,sp3,L3,rfl,ho3,hd3,hkeep3,rfl⟩:=hR
    rw [e1] at ho3 hd3⊢
    unfold eH
    refine al Jb I9 4 ?_
    refine ab.st rfl rfl rfl rfl I9 rfl 9 rfl rfl ?_
    refine gE ?_
    exact K ⟨(qt f f[i] ts,{f[i] with x:=((qt f f[i] ts).idxOf (aa f x):Int)},q3,cap3,sp3,L3),rfl,e2.symm,ho3,hd3,fun j hj=>hkeep3 j (by omega)⟩ _ _ sF (fun _ _ hS=>hS)
   have hX:cF f[i].op=false:=hc
   have e1:ts=qt f f[i] ts:=by rw [qt,if_neg (by rw [hX];simp)]
   have e2:f[i]=zR f f[i] ts:=by rw [zR,if_neg (by rw [hX];simp)]
   refine gK ?_
   skip
   exact K ⟨(ts,f[i],q,cap,sp,L),e1,e2,ho,hd,fun j hj=>rfl⟩ _ _ sF (fun _ _ hS=>hS)
end Go.Proofs.YtnfmegcknckahaaGreatDoor
namespace Go.Proofs.YtnfmegcknckahaaGreatDoor
open Go.RowKit Go.Proofs.Wit Tryz
set_option maxRecDepth 8000 in
theorem vH (a:Option Addr) (ca:Nat) (f:List NV) (i:Nat) (w:World) (ha:FA w a f) (hf:bd f) (hfl:f.length≤10000) (hi:i<f.length):
  Cn Tryz.prog 106 [.slice a f.length ca,.int .i64 i] w (fun v w'=>aI 66 w w' v (bS (aa f i))):=by
 refine Cn.of func106 rfl rfl ?_
 refine gS (gR ?_)
 refine ab.bx rfl rfl rfl rfl (fun b2=>?_)
 refine ai ?_;refine gE (gS (gR ?_))
 refine ab.eN rfl rfl rfl (fun _=>Jx _) (fun b5=>?_)
 refine gE (gS (gR ?_))
 refine ab.mkMap NV.v EA rfl rfl rfl (fun b9=>?_)
 refine ab.eN rfl rfl rfl (fun _=>zeroValue157 _) (fun b6=>?_)
 refine ab.st rfl rfl rfl rfl sizeOf157 rfl 0 rfl rfl ?_
 refine gE (gS (gR ?_))
 refine ab.mkMap (Value.int .i64) EA rfl rfl rfl (fun b10=>?_)
 refine ab.eN rfl rfl rfl (fun _=>zeroValue158 _) (fun b7=>?_)
 refine ab.st rfl rfl rfl rfl sizeOf158 rfl 0 rfl rfl ?_
 refine gE (gS (gR ?_))
 refine ab.eN rfl rfl rfl (fun _=>zeroValue96 _) (fun b8=>?_)
 refine gE (gS (gR ?_))
 refine ab.v (ae.ux rfl rfl rfl rfl rfl) ?_
 refine ab.st rfl rfl rfl rfl sizeOf96 rfl 0 rfl rfl ?_
 refine gE (gS (gR ?_));refine aq isAgg96 0 ?_;refine ah ?_
 refine ab.cQ (eO 66 (aS []) []) ?_
 refine ab.pick (pre:=[_,_,_,_,_,_,_,_]) (pre':=eH b7 b2 b8 b6 b5 b10 b9 a ca f.length none 0 [] [] []++[]) [2,7,1,4,6,0,3,5] (by decide) rfl ?_
 refine ab.iG (h:=eH b7 b2 b8 b6 b5 b10 b9 a ca f.length none 0 [] [] []) (hF:=[]) (fs:=[]) (cs:=[pt b7,pt b2,pt b8,pt b6,pt b5]) (fun _ v h'=>nD f i b7 b2 b8 b6 b5 b10 b9 a ca f.length [] [] v h') rfl rfl rfl rfl rfl (fun _ _=>call153 _ _) (fun w1 Y' hS=>?_) (fun w1 v h1 hR=>?_)
 ·have hS1:=hS.dH (List.sublist_append_left (eH b7 b2 b8 b6 b5 b10 b9 a ca f.length none 0 [] [] []) _)
  exact BA f a ca hf hfl b7 b2 b8 b6 b5 b10 b9 i hi w1 none 0 [] [] [] hS1.has (ha.ay hS.ext) (vm (h:=[]) ha (by omega) (by simp [cI]) hS1) ⟨fun _=>⟨rfl,rfl⟩,rfl,lY.nil,List.nodup_nil,fun u hu=>by cases hu⟩ (List.nil_subset _) ki.nil
 obtain ⟨q1,cap1,sp1,L1,rfl,ho1,hd1,_,rfl⟩:=hR
 unfold eH
 refine gE (gS (gR ?_));refine aq Jn 4 ?_;refine ai ?_;refine gE ?_
 refine gT func106 fun w' hS=>?_
 exact ⟨hS.ext,aI.mk hS 5 rfl rfl ho1.nil ho1.cap⟩
set_option maxRecDepth 4000 in
theorem iF (a:Option Addr) (ca:Nat) (f:List NV) (i:Int) (w:World) (ha:FA w a f) (hl:f.length≤maxLen):Cn Tryz.prog 86 [.slice a f.length ca,.int .i64 i] w (fun v w'=>aI 66 w w' v (fw f i)):=by
  refine Cn.of func86 rfl rfl ?_
  refine gS (gR ?_);refine ai ?_;refine gE (gS (gS (gR ?_)));refine ah ?_
  refine gP rfl rfl rfl rfl rfl call54 (fun w _ hS=>(by exact fR a ca f w (ha.ay hS.ext) hl)) ?_
  refine aw gO ?_;refine ah ?_
  refine eD 8 (fun hc=>?_) fun hc=>?_
  ·
   have h1:aV f≠0:=by simpa using hc
   iterate 2 refine cy ?_
   refine cz ?_;refine ah ?_
   iterate 4 refine cy ?_
   refine cz ?_;refine gE (ab.bX rfl (gS (gR ?_)));refine ai ?_;refine gE ?_
   refine gT func86 fun w' hS=>?_
   exact ⟨hS.ext,by rw [fw,if_pos (.inl h1)];exact aI.oI⟩
  have h1:aV f=0:=by simpa using hc
  refine ah ?_;refine aw jl ?_;refine bE ?_;refine ah ?_
  refine eD 12 (fun hc=>?_) fun hc=>?_
  ·
   have h2:i<0:=by simpa using hc
   iterate 4 refine cy ?_
   refine cz ?_;refine gE (ab.bX rfl (gS (gR ?_)));refine ai ?_;refine gE ?_
   refine gT func86 fun w' hS=>?_
   exact ⟨hS.ext,by rw [fw,if_pos (.inr (.inl h2))];exact aI.oI⟩
  have h2:¬i<0:=by simpa using hc
  iterate 2 refine ah ?_
  refine dY Ji ?_;refine aw oN ?_;refine bE ?_;refine gE ?_
  refine gC (fun hc=>?_) fun hc=>?_
  ·
   have h3:(f.length:Int)≤i:=by simpa using hc
   refine gS (gR ?_);refine ai ?_;refine gE ?_
   refine gT func86 fun w' hS=>?_
   exact ⟨hS.ext,by rw [fw,if_pos (.inr (.inr h3))];exact aI.oI⟩
  have h3:¬(f.length:Int)≤i:=by simpa using hc
  have hok:=aA.1 h1
  have hnl:=hok.len
  have hnp:=hok.pos
  obtain ⟨i,rfl⟩:∃I:Nat,i=I:=⟨i.toNat,by omega⟩
  have hi2:i<f.length:=by omega
  have he:fw f i=bS (aa f i):=by rw [fw,if_neg (by simp [h1];omega)];rfl
  refine gK (gS (gR ?_))
  iterate 2 refine ah ?_
  refine gM rfl rfl rfl rfl rfl call106 (fun w _ hS=>vH a ca f i w (ha.ay hS.ext) hok.nodes (by omega) hi2) ?_
  rintro v w1 w2 Y' hS he2 ho
  obtain ⟨q,cap,sp,rfl,hq,ao,hS'⟩:=ak hS he2 ho
  refine ⟨_,hS',?_⟩
  refine ai ?_;refine gE ?_
  refine gT func86 fun w' hS=>?_
  exact ⟨hS.ext,by rw [he];exact aI.mk hS 0 rfl rfl hq ao⟩
theorem dZ (a:Option Addr) (ca:Nat) (f:List NV) (w:World) (ha:FA w a f) (hl:f.length≤maxLen):Cn Tryz.prog 55 [.slice a f.length ca] w (fun v w'=>aI 66 w w' v (fw f ((f.length:Int) - 1))):=by
 unfold maxLen at hl
 refine Cn.of func55 rfl rfl ?_
 refine gS (gR ?_);refine ai ?_;refine gE (gS (gR ?_))
 iterate 2 refine ah ?_
 refine dY Ji ?_;refine df rfl rfl rfl rfl (og (by omega)) ?_
 refine gM rfl rfl rfl rfl rfl call86 (fun w _ hS=>iF a ca f ((f.length:Int) - 1) w (ha.ay hS.ext) hl) ?_
 rintro v w1 w2 Y' hS he ho
 obtain ⟨q,cap,sp,rfl,hq,ao,hS'⟩:=ak hS he ho
 refine ⟨_,hS',?_⟩
 refine ai ?_;refine gE ?_
 refine gT func55 fun w' hS=>?_
 exact ⟨hS.ext,aI.mk hS 0 rfl rfl hq ao⟩
end Go.Proofs.YtnfmegcknckahaaGreatDoor
