/- What calls of the program return, under the conditions that each theorem states. -/
import Derived.Test.YtnfmegcknckahaaGreatDoorXC06
import Derived.Test.YtnfmegcknckahaaGreatDoorXC07
import Derived.Test.YtnfmegcknckahaaGreatDoorXC03
import Derived.Test.YtnfmegcknckahaaGreatDoorXC04
namespace Go.Proofs.YtnfmegcknckahaaGreatDoor
open Go.RowKit Go.Proofs.Wit Tryz
/-! the program's walk that makes a canonical list -/
def pt (b:Nat):Value:=.pointer (some ⟨b,0,none⟩)
def eM (bD bf bF bN bO mD mN:Nat) (a:Option Addr) (ca n:Nat) (q:Option Nat) (cap:Nat) (ts:List Tr) (sp:List Value) (L:List (Int×Nat)):Hl:=
 [(some bD,.cells #[.map (some mD)] 158 (0,0)),(some bf,.cells #[.slice a n ca] 22 (0,0)),(some bF,.cells #[.func (.func 153) #[] #[pt bD,pt bf,pt bF,pt bN,pt bO]] 96 (0,0)),(some bN,.cells #[.map (some mN)] 157 (0,0)),(some bO,.cells #[cR q (aQ ts).length cap] 22 (0,0)),(q,eX 66 (aQ ts) sp),(some mD,lu (Value.int .i64) EP L),(some mN,lu NV.v EP (aQ ts).zipIdx)]
def nG (f:List NV) (i bD bf bF bN bO mD mN:Nat) (a:Option Addr) (ca n:Nat) (ts:List Tr) (L:List (Int×Nat)) (v:Value) (h':Hl):Prop:=
 ∃q' cap' sp' L',h'=eM bD bf bF bN bO mD mN a ca n q' cap' (visit (aa f i) ts) sp' L'∧wh q' cap' (visit (aa f i) ts) sp'∧km f (visit (aa f i) ts) L'∧(∀j:Nat,i<j→cG (fun a b:Int=>a==b) L' (j:Int)=cG (fun a b:Int=>a==b) L (j:Int))∧v=.int .i64 ((visit (aa f i) ts).idxOf (aa f i):Int)
set_option maxRecDepth 8000 in
theorem BN (f:List NV) (a:Option Addr) (ca:Nat) (hf:aZ f) (hfl:f.length≤10000) (bD bf bF bN bO mD mN:Nat):∀(i:Nat),i<f.length→∀(w:World) (q:Option Nat) (cap:Nat) (ts:List Tr) (sp:List Value) (L:List (Int×Nat)),
    iC w (eM bD bf bF bN bO mD mN a ca f.length q cap ts sp L)→FA w a f→(∀b o,a=some ⟨b,o,none⟩→b∉cJ (eM bD bf bF bN bO mD mN a ca f.length q cap ts sp L))→wh q cap ts sp→ts⊆trees f→km f ts L→
    qA Tryz.prog 153 [.int .i64 i,pt bD,pt bf,pt bF,pt bN,pt bO] w (eM bD bf bF bN bO mD mN a ca f.length q cap ts sp L) (nG f i bD bf bF bN bO mD mN a ca f.length ts L):=by
  obtain ⟨iN,hiN,hzN,hszN,hbyN⟩:=info_parts Cu
  have hKI:=jK.int (P:=Tryz.prog) (kt:=3) (kd:=.i64) underlying3
  have hKN:jK Tryz.prog 66 NV.v (fun a b=>a==b):=by
    obtain ⟨fs,hu,hfs⟩:=vE
    exact jK.node hu hfs underlying3 Jn xU
  intro i
  induction i using Nat.strongRecOn with
  |_ i IHi=>
  intro hi w q cap ts sp L hh ha hsep ho hts hd
  have hok:=hf i hi
  have hclo:=hf.ord.oN
  have hmem:=mi hi
  have has:CI (cJ (eM bD bf bF bN bO mD mN a ca f.length q cap ts sp L)) w a f:=⟨ha.at_,hsep⟩
  refine qA.of hh func153 rfl rfl ?_
  unfold eM at has⊢
  refine gS (gR ?_);refine ai ?_;refine gE (gS (gS (gR ?_)));refine aq isAgg158 0 ?_;refine ah ?_
  refine ab.v (ae.Bk (ev:=EP) (a:=(i:Int)) (z:=.int .i64 0) (L:=L) hKI rfl rfl rfl rfl rfl underlying158 (fun _=>JJ _) 6 rfl) ?_
  refine ah ?_
  iterate 2 refine ga ?_
  iterate 2 refine ai ?_
  refine gE (gS (gR ?_));refine ah ?_;refine gE ?_
  refine gC (fun hc=>?_) fun hc=>?_
  ·
   obtain ⟨v,hv⟩:∃v,cG (fun a b:Int=>a==b) L (i:Int)=some v:=by
     cases h:cG (fun a b:Int=>a==b) L (i:Int) with
     |none=>rw [h] at hc;simp at hc
     |some v=>exact ⟨v,rfl⟩
   obtain ⟨hm,hix⟩:=hd.at_ i v hv
   refine gS (gR ?_);refine ah ?_;refine ai ?_;refine gE ?_
   refine gT func153 fun w' hS=>?_
   refine ⟨_,⟨q,cap,sp,L,?_,?_,?_,fun j _=>rfl,?_⟩,hS⟩
   · rw [gj hm];rfl
   · rw [gj hm];exact ho
   · rw [gj hm];exact hd
   rw [gj hm,←hix,hv];rfl
  have hno:cG (fun a b:Int=>a==b) L (i:Int)=none:=by
    cases h:cG (fun a b:Int=>a==b) L (i:Int) with
    |none=>rfl
    |some v=>rw [h] at hc;simp at hc
  refine gK (gS (gR ?_));refine aq JC 1 ?_;refine ah ?_
  refine ab.v (ae.dK rfl rfl rfl rfl rfl Jv Jq ⟨_,(has).at_⟩ (aw (enc:=NV.cells) (sz:=6) (fun _=>rfl)) (by decide) (i) ⟨rfl,hi⟩) ?_
  refine ab.v (ae.mq (cs:=NV.cells f[i]) rfl rfl rfl rfl JH Jq (fun w _ hS=>Sl.many (enc:=NV.cells) (sz:=6) (has.ay hS.ext).at_ (fun _=>rfl) hi)) ?_
  refine ab.eH rfl rfl rfl (fun _=>JE _) (fun b10=>?_)
  refine ab.dw rfl rfl rfl rfl Jq 0 rfl rfl rfl rfl ?_
  refine gE (gS (gR ?_));refine al Jo Jm 0 ?_;refine aq Jn 0 ?_
  refine gP rfl rfl rfl rfl rfl call105 (fun w _ hS=>(by exact gY f[i].op w)) ?_
  refine ah ?_
  iterate 2 refine ga ?_
  refine ab.eH rfl rfl rfl (fun _=>Kc _) (fun b11=>?_)
  refine ab.dw rfl rfl rfl rfl JA 0 rfl rfl rfl rfl ?_
  refine ab.pick (pre:=[_,_,_,_,_,_,_,_,_,_]) (pre':=eM bD bf bF bN bO mD mN a ca f.length q cap ts sp L++[(some b11,.cells (qO f[i].op).cells 122 (0,0)),(some b10,.cells (NV.cells f[i]).toArray 66 (0,0))]) [2,3,4,5,6,7,8,9,0,1] (by decide) rfl ?_
  unfold eM
  refine ai ?_;refine gE (gS ?_)
  refine ab.jM (α:={z:List Tr×NV×Option Nat×Nat×List Value×List (Int×Nat) // z.1=qz f f[i] ts∧z.2.1=Ac f f[i] ts∧wh z.2.2.1 z.2.2.2.1 z.1 z.2.2.2.2.1∧km f z.1 z.2.2.2.2.2∧∀j:Nat,i≤j→cG (fun a b:Int=>a==b) z.2.2.2.2.2 (j:Int)=cG (fun a b:Int=>a==b) L (j:Int)})
    (fun _=>[(0,.int .i64 i),(1,pt bD),(2,pt bf),(3,pt bF),(4,pt bN),(5,pt bO),(10,pt b10),(11,pt b11)]) (fun z=>eM bD bf bF bN bO mD mN a ca f.length z.1.2.2.1 z.1.2.2.2.1 z.1.1 z.1.2.2.2.2.1 z.1.2.2.2.2.2++[(some b11,.cells (qO f[i].op).cells 122 (0,0)),(some b10,.cells (NV.cells z.1.2.1).toArray 66 (0,0))]) (fun z=>?_) (fun K=>?_)
  · -- what comes behind
   obtain ⟨⟨ts1,n1,q1,cap1,sp1,L1⟩,hts1,hn1,ho1,hd1,hkeep1⟩:=z
   dsimp only at hts1 hn1 ho1 hd1 hkeep1⊢
   obtain ⟨hc1,hnd1,hp1,hs1⟩:=CU hi hf ho.oN ho.nd hts
   rw [←hts1] at hc1 hnd1 hp1 hs1
   unfold eM
   refine gS ?_
   refine ab.jM (α:={z:List Tr×NV×Option Nat×Nat×List Value×List (Int×Nat) // z.1=fO (aa f i) ts∧z.2.1=bt (fO (aa f i) ts) (aa f i)∧wh z.2.2.1 z.2.2.2.1 z.1 z.2.2.2.2.1∧km f z.1 z.2.2.2.2.2∧∀j:Nat,i≤j→cG (fun a b:Int=>a==b) z.2.2.2.2.2 (j:Int)=cG (fun a b:Int=>a==b) L (j:Int)})
     (fun _=>[(0,.int .i64 i),(1,pt bD),(2,pt bf),(3,pt bF),(4,pt bN),(5,pt bO),(10,pt b10),(11,pt b11)]) (fun z=>eM bD bf bF bN bO mD mN a ca f.length z.1.2.2.1 z.1.2.2.2.1 z.1.1 z.1.2.2.2.2.1 z.1.2.2.2.2.2++[(some b11,.cells (qO f[i].op).cells 122 (0,0)),(some b10,.cells (NV.cells z.1.2.1).toArray 66 (0,0))]) (fun z=>?_) (fun K=>?_)
   · -- what comes behind
    obtain ⟨⟨vs,m,q2,jP,oS,L2⟩,hvs,hm2,ho2,hd2,hkeep2⟩:=z
    dsimp only at hvs hm2 ho2 hd2 hkeep2⊢
    obtain ⟨hc2,hnd2,hp2,hs2,hk2⟩:=CT hi hf ho.oN ho.nd hts
    have hput:=wq (t:=aa f i) ho.oN ho.nd
    rw [←hvs] at hc2 hnd2 hp2 hs2 hk2 hput hm2
    have hno2:cG (fun a b:Int=>a==b) L2 (i:Int)=none:=by rw [hkeep2 i (Nat.le_refl _),hno]
    have hVis:=iv (aa f i) ho.oN ho.nd
    have hlT:vs.length≤10000:=by have:=AB ho2.nd hs2;omega
    have hnl:(aQ vs).length=vs.length:=jE
    unfold eM
    refine gS (gR ?_);refine aq isAgg157 3 ?_
    refine ab.v (ae.gJ rfl rfl rfl rfl JH 9 rfl Jq rfl) ?_
    refine ab.v (ae.Bk (ev:=EP) (a:=m) (z:=.int .i64 0) (L:=(aQ vs).zipIdx) hKN rfl rfl rfl rfl rfl underlying157 (fun _=>JJ _) 7 rfl) ?_
    refine ah ?_
    iterate 2 refine ga ?_
    iterate 2 refine ai ?_
    refine gE (gS (gS (gR ?_)));refine ah ?_;refine eY bH ?_;refine gE ?_
    refine gC (fun hc=>?_) fun hc=>?_
    ·
     have hnm:aa f i∉vs:=fun hm=>by
       rw [hm2,tq ho2.oN ho2.nd ho2.wf hm] at hc;simp at hc
     have hv0:visit (aa f i) ts=vs++[aa f i]:=by rw [←hput];exact if_neg hnm
     have hzz:=xA hc2 hk2
     rw [←hm2] at hzz
     have hsn:=kC hc2 hk2
     rw [←hm2] at hsn
     have e1:(aQ vs).flatMap NV.cells++NV.cells m=(aQ (vs++[aa f i])).flatMap NV.cells:=by rw [hsn,List.flatMap_append];simp
     have e2:(aQ vs).length+1=(aQ (vs++[aa f i])).length:=by rw [hsn];simp
     have hnew:cG (fun a b:NV=>a==b) (aQ vs).zipIdx m=none:=by rw [hm2];exact tu hc2 ho2.wf (nK f i) hk2 hnm
     have hpre:vs<+:vs++[aa f i]:=List.prefix_append _ _
     have hix:(vs++[aa f i]).idxOf (aa f i)=vs.length:=wO hnm
     refine gS (gR ?_);refine aq JC 4 ?_;refine dt Jv ?_;refine ai ?_;refine gE (gS (gR ?_));refine aq JC 4 ?_
     refine ab.v (ae.gJ rfl rfl rfl rfl JH 9 rfl Jq rfl) ?_
     refine ab.ew (c:=[_,_,_,_,_,_]) rfl rfl rfl rfl Jv Jq JE rfl rfl (fun b59=>?_)
     refine ab.app 6 (xs:=(aQ vs).flatMap NV.cells) (sp:=oS) (nx:=(aQ vs).length) (q:=q2) (news:=NV.cells m) (spn:=[]) rfl rfl rfl rfl rfl Jv hiN hzN hszN rfl ho2.nil 6 rfl 0 rfl ow ho2.cap rfl (by decide) (fun u hu=>by
       simp only [NV.cells,List.mem_cons,List.not_mem_nil,or_false] at hu
       rcases hu with rfl|rfl|rfl|rfl|rfl|rfl<;>rfl) (by unfold maxLen;omega) (by rw [hbyN];omega) (fun b' sp' cap' hlen=>?_)
     rw [e1] at hlen
     simp only [e1,e2]
     refine ab.st rfl rfl rfl rfl Jw rfl 5 rfl rfl ?_
     refine gE (gR ?_);refine aq isAgg157 4 ?_
     refine ab.v (ae.gJ rfl rfl rfl rfl JH 10 rfl Jq rfl) ?_
     refine ah ?_
     refine ab.pN hKN rfl (.inl rfl) rfl rfl rfl (a:=m) (v:=(aQ vs).length) rfl rfl underlying157 8 rfl hnew ?_
     rw [←hzz]
     refine gE (gS (gR ?_));refine aq isAgg158 1 ?_
     iterate 2 refine ah ?_
     refine ab.pN hKI rfl (.inl rfl) rfl rfl rfl (a:=(i:Int)) (v:=(aQ vs).length) rfl rfl underlying158 7 rfl hno2 ?_
     refine gE (gS (gR ?_));refine ah ?_;refine ai ?_;refine gE ?_
     refine gT func153 fun w' hS=>?_
     have hd3:=(hd2.mono hpre).ins (i:=i) (by rw [←hv0];exact hVis.mem)
     rw [hix,←hnl] at hd3
     refine ⟨_,⟨some b',cap',sp',L2++[((i:Int),(aQ vs).length)],rfl,?_,by rw [hv0];exact hd3,fun j hj=>by rw [oo (by omega)];exact hkeep2 j (by omega),?_⟩,?_⟩
     · rw [hv0]
       exact ⟨(fun e=>by cases e),hlen,hc2.snoc hk2,kB hnd2 hnm,fun u hu=>by
         rcases List.mem_append.1 hu with hu|hu
         · exact ho2.wf u hu
         rw [List.mem_singleton.1 hu];exact nK f i⟩
     · rw [hv0,hix,←hnl];rfl
     rw [hv0]
     exact hS.dO (.cons _ (List.sublist_append_left (eM bD bf bF bN bO mD mN a ca f.length (some b') cap' (vs++[aa f i]) sp' (L2++[((i:Int),(aQ vs).length)])) _))
    have hm:aa f i∈vs:=Classical.byContradiction (fun hnm=>by
      rw [hm2,tu hc2 ho2.wf (nK f i) hk2 hnm] at hc;simp at hc)
    have hv0:visit (aa f i) ts=vs:=by rw [←hput];exact if_pos hm
    have hget:cG (fun a b:NV=>a==b) (aQ vs).zipIdx m=some (vs.idxOf (aa f i)):=by rw [hm2];exact tq hc2 hnd2 ho2.wf hm
    refine gK (gS (gR ?_));refine aq isAgg158 0 ?_
    iterate 2 refine ah ?_
    refine ab.pN hKI rfl (.inl rfl) rfl rfl rfl (a:=(i:Int)) (v:=vs.idxOf (aa f i)) rfl (by rw [hget];rfl) underlying158 6 rfl hno2 ?_
    refine gE (gS (gR ?_));refine ah ?_;refine ai ?_;refine gE ?_
    refine gT func153 fun w' hS=>?_
    refine ⟨_,⟨q2,jP,oS,L2++[((i:Int),vs.idxOf (aa f i))],rfl,by rw [hv0];exact ho2,by rw [hv0];exact hd2.ins hm,fun j hj=>by rw [oo (by omega)];exact hkeep2 j (by omega),?_⟩,?_⟩
    · rw [hv0,hget];rfl
    rw [hv0]
    exact hS.dO (List.sublist_append_left (eM bD bf bF bN bO mD mN a ca f.length q2 jP vs oS (L2++[((i:Int),vs.idxOf (aa f i))])) _)
   · -- the first part
    refine gS (gR ?_);refine al Js Jp 1 ?_;refine aq Jr 8 ?_;refine gE ?_
    refine gC (fun hc=>?_) fun hc=>?_
    ·
     have hY:cu f[i].op=true:=hc
     have hyr:=hok.y hY
     obtain ⟨y,hy⟩:∃y:Nat,f[i].y=(y:Int):=⟨f[i].y.toNat,by omega⟩
     have hyi:y<i:=by omega
     have hn1y:n1.y=(y:Int):=by rw [hn1,←hy];rfl
     obtain ⟨e1,e2⟩:=EX hi hf ho.oN ho.nd hY
     rw [←hts1,←hn1,hy,Int.toNat_natCast] at e2
     rw [←hts1,hy,Int.toNat_natCast] at e1
     rw [e1] at e2
     refine gR ?_;refine aq isAgg96 2 ?_;refine al Jo Jm 5 ?_;refine aq Jn 9 ?_
     refine ab.dO (h':=eM bD bf bF bN bO mD mN a ca f.length q1 cap1 ts1 sp1 L1++[(some b11,.cells (qO f[i].op).cells 122 (0,0)),(some b10,.cells (NV.cells n1).toArray 66 (0,0))]) (List.Sublist.refl _) ?_
     refine ab.iK (h:=eM bD bf bF bN bO mD mN a ca f.length q1 cap1 ts1 sp1 L1) (hF:=[(some b11,.cells (qO f[i].op).cells 122 (0,0)),(some b10,.cells (NV.cells n1).toArray 66 (0,0))]) (fs:=[]) (cs:=[pt bD,pt bf,pt bF,pt bN,pt bO]) (fun _ v h'=>nG f y bD bf bF bN bO mD mN a ca f.length ts1 L1 v h') rfl rfl rfl rfl rfl (fun _ _=>call153 _ _) (fun w1 Y' hS=>?_) (fun w1 v h1 hR=>?_)
     · have hS1:=hS.dO (List.sublist_append_left (eM bD bf bF bN bO mD mN a ca f.length q1 cap1 ts1 sp1 L1) _)
       have:=IHi y hyi (by omega) w1 q1 cap1 ts1 sp1 L1 hS1.has ⟨(has.ay hS.ext).at_⟩ (vy ha (by omega) hsep hS1) ho1 hs1 hd1
       rw [←hn1y] at this
       exact this
     obtain ⟨q3,cap3,sp3,L3,rfl,ho3,hd3,hkeep3,rfl⟩:=hR
     rw [e1] at ho3 hd3⊢
     unfold eM
     refine al Jo Jm 5 ?_
     refine ab.st rfl rfl rfl rfl Jm rfl 9 rfl rfl ?_
     refine gE ?_
     exact K ⟨(fO (aa f i) ts,{n1 with y:=((fO (aa f i) ts).idxOf (aa f y):Int)},q3,cap3,sp3,L3),rfl,e2,ho3,hd3,fun j hj=>by rw [←hkeep1 j hj];exact hkeep3 j (by omega)⟩ _ _ sF (fun _ _ hS=>hS)
    have hY:cu f[i].op=false:=hc
    obtain ⟨e1,e2⟩:=Ip hi hf (ts:=ts) hY
    rw [←hts1] at e1
    rw [←hn1] at e2
    refine gK ?_
    skip
    exact K ⟨(ts1,n1,q1,cap1,sp1,L1),e1,e2,ho1,hd1,hkeep1⟩ _ _ sF (fun _ _ hS=>hS)
  · -- the first part
   refine gS (gR ?_);refine al Js Jp 0 ?_;refine aq Jr 8 ?_;refine gE ?_
   refine gC (fun hc=>?_) fun hc=>?_
   ·
    have hX:cF f[i].op=true:=hc
    have hxr:=hok.x hX
    obtain ⟨x,hx⟩:∃x:Nat,f[i].x=(x:Int):=⟨f[i].x.toNat,by omega⟩
    have hxi:x<i:=by omega
    have e1:visit (aa f x) ts=qz f f[i] ts:=by rw [qz,if_pos hX,hx];rfl
    have e2:Ac f f[i] ts={f[i] with x:=((qz f f[i] ts).idxOf (aa f x):Int)}:=by rw [Ac,if_pos hX,hx];rfl
    refine gR ?_;refine aq isAgg96 2 ?_;refine al Jo Jm 4 ?_;refine aq Jn 9 ?_
    refine ab.dO (h':=eM bD bf bF bN bO mD mN a ca f.length q cap ts sp L++[(some b11,.cells (qO f[i].op).cells 122 (0,0)),(some b10,.cells (NV.cells f[i]).toArray 66 (0,0))]) (List.Sublist.refl _) ?_
    refine ab.iK (h:=eM bD bf bF bN bO mD mN a ca f.length q cap ts sp L) (hF:=[(some b11,.cells (qO f[i].op).cells 122 (0,0)),(some b10,.cells (NV.cells f[i]).toArray 66 (0,0))]) (fs:=[]) (cs:=[pt bD,pt bf,pt bF,pt bN,pt bO]) (fun _ v h'=>nG f x bD bf bF bN bO mD mN a ca f.length ts L v h') rfl rfl rfl rfl rfl (fun _ _=>call153 _ _) (fun w1 Y' hS=>?_) (fun w1 v h1 hR=>?_)
    · have hS1:=hS.dO (List.sublist_append_left (eM bD bf bF bN bO mD mN a ca f.length q cap ts sp L) _)
      have:=IHi x hxi (by omega) w1 q cap ts sp L hS1.has ⟨(has.ay hS.ext).at_⟩ (has.ay hS.ext).sep ho hts hd
      rw [←hx] at this
      exact this
    obtain ⟨q3,cap3,sp3,L3,rfl,ho3,hd3,hkeep3,rfl⟩:=hR
    rw [e1] at ho3 hd3⊢
    unfold eM
    refine al Jo Jm 4 ?_
    refine ab.st rfl rfl rfl rfl Jm rfl 9 rfl rfl ?_
    refine gE ?_
    exact K ⟨(qz f f[i] ts,{f[i] with x:=((qz f f[i] ts).idxOf (aa f x):Int)},q3,cap3,sp3,L3),rfl,e2.symm,ho3,hd3,fun j hj=>hkeep3 j (by omega)⟩ _ _ sF (fun _ _ hS=>hS)
   have hX:cF f[i].op=false:=hc
   have e1:ts=qz f f[i] ts:=by rw [qz,if_neg (by rw [hX];simp)]
   have e2:f[i]=Ac f f[i] ts:=by rw [Ac,if_neg (by rw [hX];simp)]
   refine gK ?_
   skip
   exact K ⟨(ts,f[i],q,cap,sp,L),e1,e2,ho,hd,fun j hj=>rfl⟩ _ _ sF (fun _ _ hS=>hS)
end Go.Proofs.YtnfmegcknckahaaGreatDoor
namespace Go.Proofs.YtnfmegcknckahaaGreatDoor
open Go.RowKit Go.Proofs.Wit Tryz
/-! the program's compact, Sub and Compact -/
set_option maxRecDepth 8000 in
theorem vR (a:Option Addr) (ca:Nat) (f:List NV) (i:Nat) (w:World) (ha:FA w a f) (hf:aZ f) (hfl:f.length≤10000) (hi:i<f.length):
  Cn Tryz.prog 106 [.slice a f.length ca,.int .i64 i] w (fun v w'=>aI 66 w w' v (cd (aa f i))):=by
 refine Cn.of func106 rfl rfl ?_
 refine gS (gR ?_)
 refine ab.bx rfl rfl rfl rfl (fun b2=>?_)
 refine ai ?_;refine gE (gS (gR ?_))
 refine ab.eH rfl rfl rfl (fun _=>JN _) (fun b5=>?_)
 refine gE (gS (gR ?_))
 refine ab.mkMap NV.v EP rfl rfl rfl (fun b9=>?_)
 refine ab.eH rfl rfl rfl (fun _=>zeroValue157 _) (fun b6=>?_)
 refine ab.st rfl rfl rfl rfl sizeOf157 rfl 0 rfl rfl ?_
 refine gE (gS (gR ?_))
 refine ab.mkMap (Value.int .i64) EP rfl rfl rfl (fun b10=>?_)
 refine ab.eH rfl rfl rfl (fun _=>zeroValue158 _) (fun b7=>?_)
 refine ab.st rfl rfl rfl rfl sizeOf158 rfl 0 rfl rfl ?_
 refine gE (gS (gR ?_))
 refine ab.eH rfl rfl rfl (fun _=>zeroValue96 _) (fun b8=>?_)
 refine gE (gS (gR ?_))
 refine ab.v (ae.uD rfl rfl rfl rfl rfl) ?_
 refine ab.st rfl rfl rfl rfl sizeOf96 rfl 0 rfl rfl ?_
 refine gE (gS (gR ?_));refine aq isAgg96 0 ?_;refine ah ?_
 refine ab.cS (eX 66 (aQ []) []) ?_
 refine ab.pick (pre:=[_,_,_,_,_,_,_,_]) (pre':=eM b7 b2 b8 b6 b5 b10 b9 a ca f.length none 0 [] [] []++[]) [2,7,1,4,6,0,3,5] (by decide) rfl ?_
 refine ab.iK (h:=eM b7 b2 b8 b6 b5 b10 b9 a ca f.length none 0 [] [] []) (hF:=[]) (fs:=[]) (cs:=[pt b7,pt b2,pt b8,pt b6,pt b5]) (fun _ v h'=>nG f i b7 b2 b8 b6 b5 b10 b9 a ca f.length [] [] v h') rfl rfl rfl rfl rfl (fun _ _=>call153 _ _) (fun w1 Y' hS=>?_) (fun w1 v h1 hR=>?_)
 ·have hS1:=hS.dO (List.sublist_append_left (eM b7 b2 b8 b6 b5 b10 b9 a ca f.length none 0 [] [] []) _)
  exact BN f a ca hf hfl b7 b2 b8 b6 b5 b10 b9 i hi w1 none 0 [] [] [] hS1.has (ha.ay hS.ext) (vy (h:=[]) ha (by omega) (by simp [cJ]) hS1) ⟨fun _=>⟨rfl,rfl⟩,rfl,mf.nil,List.nodup_nil,fun u hu=>by cases hu⟩ (List.nil_subset _) km.nil
 obtain ⟨q1,cap1,sp1,L1,rfl,ho1,hd1,_,rfl⟩:=hR
 unfold eM
 refine gE (gS (gR ?_));refine aq JC 4 ?_;refine ai ?_;refine gE ?_
 refine gT func106 fun w' hS=>?_
 exact ⟨hS.ext,aI.mk hS 5 rfl rfl ho1.nil ho1.cap⟩
set_option maxRecDepth 4000 in
theorem iH (a:Option Addr) (ca:Nat) (f:List NV) (i:Int) (w:World) (ha:FA w a f) (hl:f.length≤maxLen):Cn Tryz.prog 86 [.slice a f.length ca,.int .i64 i] w (fun v w'=>aI 66 w w' v (fz f i)):=by
  refine Cn.of func86 rfl rfl ?_
  refine gS (gR ?_);refine ai ?_;refine gE (gS (gS (gR ?_)));refine ah ?_
  refine gP rfl rfl rfl rfl rfl call54 (fun w _ hS=>(by exact fS a ca f w (ha.ay hS.ext) hl)) ?_
  refine ax fX ?_;refine ah ?_
  refine dW 8 (fun hc=>?_) fun hc=>?_
  ·
   have h1:aV f≠0:=by simpa using hc
   iterate 2 refine bZ ?_
   refine bV ?_;refine ah ?_
   iterate 4 refine bZ ?_
   refine bV ?_;refine gE (ab.bJ rfl (gS (gR ?_)));refine ai ?_;refine gE ?_
   refine gT func86 fun w' hS=>?_
   exact ⟨hS.ext,by rw [fz,if_pos (.inl h1)];exact aI.oK⟩
  have h1:aV f=0:=by simpa using hc
  refine ah ?_;refine ax iJ ?_;refine bA ?_;refine ah ?_
  refine dW 12 (fun hc=>?_) fun hc=>?_
  ·
   have h2:i<0:=by simpa using hc
   iterate 4 refine bZ ?_
   refine bV ?_;refine gE (ab.bJ rfl (gS (gR ?_)));refine ai ?_;refine gE ?_
   refine gT func86 fun w' hS=>?_
   exact ⟨hS.ext,by rw [fz,if_pos (.inr (.inl h2))];exact aI.oK⟩
  have h2:¬i<0:=by simpa using hc
  iterate 2 refine ah ?_
  refine dt Jv ?_;refine ax oP ?_;refine bA ?_;refine gE ?_
  refine gC (fun hc=>?_) fun hc=>?_
  ·
   have h3:(f.length:Int)≤i:=by simpa using hc
   refine gS (gR ?_);refine ai ?_;refine gE ?_
   refine gT func86 fun w' hS=>?_
   exact ⟨hS.ext,by rw [fz,if_pos (.inr (.inr h3))];exact aI.oK⟩
  have h3:¬(f.length:Int)≤i:=by simpa using hc
  have hok:=aE.1 h1
  have hnl:=hok.len
  have hnp:=hok.pos
  obtain ⟨i,rfl⟩:∃I:Nat,i=I:=⟨i.toNat,by omega⟩
  have hi2:i<f.length:=by omega
  have he:fz f i=cd (aa f i):=by rw [fz,if_neg (by simp [h1];omega)];rfl
  refine gK (gS (gR ?_))
  iterate 2 refine ah ?_
  refine gM rfl rfl rfl rfl rfl call106 (fun w _ hS=>vR a ca f i w (ha.ay hS.ext) hok.nodes (by omega) hi2) ?_
  rintro v w1 w2 Y' hS he2 ho
  obtain ⟨q,cap,sp,rfl,hq,ao,hS'⟩:=ak hS he2 ho
  refine ⟨_,hS',?_⟩
  refine ai ?_;refine gE ?_
  refine gT func86 fun w' hS=>?_
  exact ⟨hS.ext,by rw [he];exact aI.mk hS 0 rfl rfl hq ao⟩
theorem ec (a:Option Addr) (ca:Nat) (f:List NV) (w:World) (ha:FA w a f) (hl:f.length≤maxLen):Cn Tryz.prog 55 [.slice a f.length ca] w (fun v w'=>aI 66 w w' v (fz f ((f.length:Int) - 1))):=by
 unfold maxLen at hl
 refine Cn.of func55 rfl rfl ?_
 refine gS (gR ?_);refine ai ?_;refine gE (gS (gR ?_))
 iterate 2 refine ah ?_
 refine dt Jv ?_;refine cU rfl rfl rfl rfl (og (by omega)) ?_
 refine gM rfl rfl rfl rfl rfl call86 (fun w _ hS=>iH a ca f ((f.length:Int) - 1) w (ha.ay hS.ext) hl) ?_
 rintro v w1 w2 Y' hS he ho
 obtain ⟨q,cap,sp,rfl,hq,ao,hS'⟩:=ak hS he ho
 refine ⟨_,hS',?_⟩
 refine ai ?_;refine gE ?_
 refine gT func55 fun w' hS=>?_
 exact ⟨hS.ext,aI.mk hS 0 rfl rfl hq ao⟩
end Go.Proofs.YtnfmegcknckahaaGreatDoor
