/- Laws of walks, for any program, under the conditions that each theorem states. -/
import Derived.Test.YtaamcaiglooemaaGreatDoorXF06
set_option maxRecDepth 100000
set_option maxHeartbeats 4000000
namespace Go.Proofs.Wit
open Go Go.RowKit
theorem vv {κ:Type} [DecidableEq κ] {L:List κ} {m:κ}:∀{s:Nat},bL (fun a b:κ=>a==b) (L.zipIdx s) m=if m∈L then some (L.idxOf m+s) else none:=by
 induction L with
 |nil=>intro s;rfl
 |cons a L ih=>
  intro s;rw [List.zipIdx_cons,bL];by_cases h:a=m;subst h;simp;have h2:(m==a)=false:=by simpa using Ne.symm h
  have h4:(a==m)=false:=by simpa using h
  rw [if_neg (by simpa using h2),ih];by_cases h3:m∈L;rw [if_pos h3,if_pos (by simp [h3]),List.idxOf_cons,h4];simp;omega;rw [if_neg h3,if_neg (by simp [h3,Ne.symm h])]
theorem pP {κ:Type} [DecidableEq κ] {m:κ}:∀{L:List κ} {k:Nat},L[k]?=some m→(∀j,j<k→L[j]?≠some m)→L.idxOf m=k
 |[],k,h1,_=>by simp at h1
 |a::L,0,h1,_=>by
  have:a=m:=by simpa using h1
  subst this;simp
 |a::L,k+1,h1,h2=>by
  have hne:a≠m:=fun e=>h2 0 (by omega) (by simp [e]);have h4:(a==m)=false:=by simpa using hne
  rw [List.idxOf_cons,h4];simp only [Bool.cond_false];rw [pP (L:=L) (k:=k) (by simpa using h1) (fun j hj=>by simpa using h2 (j+1) (by omega))]
theorem vw {ts:List Tr} (hc:mI ts) (hn:ts.Nodup) (hw:∀u∈ts,u.wf) {t:Tr} (ht:t∈ts):bL (fun a b:NV=>a==b) (ao ts).zipIdx (aG ts t)=some (ts.idxOf t):=by
 obtain ⟨h1,h2⟩:=tZ hc hn hw ht;rw [vv,if_pos (List.mem_of_getElem? h1),pP h1 h2];rfl
theorem vx {ts:List Tr} (hc:mI ts) (hw:∀u∈ts,u.wf) {t:Tr} (htw:t.wf) (hk:∀c∈kids t,c∈ts) (ht:t∉ts):bL (fun a b:NV=>a==b) (ao ts).zipIdx (aG ts t)=none:=by
 rw [vv,if_neg];intro hm;obtain ⟨k,hk2,he⟩:=List.mem_iff_getElem.1 hm;exact xT hc hw htw hk ht k (by rw [List.getElem?_eq_getElem hk2,he])
theorem z9 {ts:List Tr} {t:Tr} (hc:mI ts) (hk:∀c∈kids t,c∈ts):(ao (ts++[t])).zipIdx=(ao ts).zipIdx++[(aG ts t,(ao ts).length)]:=by
 rw [jw hc hk,List.zipIdx_append];simp
theorem vy {κ ν:Type} {q:κ→κ→Bool} {L:List (κ×ν)} {a:κ} {v:ν} {x:κ}:bL q (L++[(a,v)]) x=(bL q L x).or (if q x a=true then some v else none):=by
 induction L with
 |nil=>simp [bL]
 |cons p L ih=>
  rw [List.cons_append,bL,bL,ih];split<;>simp
abbrev H5 (v:Nat):Value:=.int .i64 v
structure lu (f:List NV) (ts:List Tr) (L:List (Int×Nat)):Prop where
  at_:∀(i v:Nat),bL (fun a b:Int=>a==b) L (i:Int)=some v→aa f i∈ts∧v=ts.idxOf (aa f i)
theorem lu.nil {f:List NV} {ts:List Tr}:lu f ts []:=⟨fun i v h=>by cases h⟩
theorem lu.mono {f:List NV} {ts us:List Tr} {L:List (Int×Nat)} (h:lu f ts L) (hp:ts<+:us):lu f us L:=
 ⟨fun i v hv=>by
  obtain ⟨h1,h2⟩:=h.at_ i v hv;exact ⟨hp.subset h1,by rw [h2,ke hp h1]⟩⟩
theorem lu.ins {f:List NV} {ts:List Tr} {L:List (Int×Nat)} (h:lu f ts L) {i:Nat} (hm:aa f i∈ts):lu f ts (L++[((i:Int),ts.idxOf (aa f i))]):=
 ⟨fun j v hv=>by
  rw [vy] at hv;cases e:bL (fun a b:Int=>a==b) L (j:Int) with
  |some u=>
   rw [e] at hv;cases hv;exact h.at_ j _ e
  |none=>
   rw [e] at hv;by_cases hq:((j:Int)==(i:Int))=true;have:i=j:=by have:=eq_of_beq hq;omega
   subst this;simp at hv;exact ⟨hm,hv.symm⟩;rw [if_neg hq] at hv;cases hv⟩
theorem pL {L:List (Int×Nat)} {i j:Int} {v:Nat} (h:i≠j):bL (fun a b:Int=>a==b) (L++[(i,v)]) j=bL (fun a b:Int=>a==b) L j:=by
 rw [vy,if_neg (by simpa using Ne.symm h)];simp
def sg (f:List NV) (n:NV) (ts:List Tr):List Tr:=if cS n.op=true then visit (aa f n.x.toNat) ts else ts
def CF (f:List NV) (n:NV) (ts:List Tr):NV:={n with x:=if cS n.op=true then ((sg f n ts).idxOf (aa f n.x.toNat):Int) else n.x}
theorem FJ {f:List NV} {i:Nat} (hi:i<f.length) (hO:aK f) {ts:List Tr} (hc:mI ts) (hn:ts.Nodup) (hs:ts⊆trees f):
  mI (sg f f[i] ts)∧(sg f f[i] ts).Nodup∧ts<+:sg f f[i] ts∧sg f f[i] ts⊆trees f:=by
 unfold sg;split;rename_i h;have hx:=(hO i hi).x h;have hV:=eM (aa f f[i].x.toNat) hc hn;exact ⟨hV.lL,hV.nd,hV.pre,fX _ hO.ord.lL (iG (by omega)) hs⟩;exact ⟨hc,hn,List.prefix_refl _,hs⟩
theorem FI {f:List NV} {i:Nat} (hi:i<f.length) (hO:aK f) {ts:List Tr} (hc:mI ts) (hn:ts.Nodup) (hs:ts⊆trees f):
  mI (fM (aa f i) ts)∧(fM (aa f i) ts).Nodup∧ts<+:fM (aa f i) ts∧fM (aa f i) ts⊆trees f∧∀c∈kids (aa f i),c∈fM (aa f i) ts:=by
 have hm:∀c∈kids (aa f i),c∈trees f:=hO.ord.lL.mem (iG hi);cases ht:aa f i with
 |leaf=>exact ⟨hc,hn,List.prefix_refl _,hs,fun c h=>by cases h⟩
 |un op j e g a=>
  rw [ht] at hm;have hV:=eM a hc hn;exact ⟨hV.lL,hV.nd,hV.pre,fX _ hO.ord.lL (hm a (by simp [kids])) hs,fun c h=>by rw [List.mem_singleton.1 h];exact hV.mem⟩
 |bin op j e g a b=>
  rw [ht] at hm;have hV:=eM a hc hn;have hW:=eM b hV.lL hV.nd;refine ⟨hW.lL,hW.nd,hV.pre.trans hW.pre,fX _ hO.ord.lL (hm b (by simp [kids])) (fX _ hO.ord.lL (hm a (by simp [kids])) hs),fun c h=>?_⟩;simp only [kids,List.mem_cons,List.not_mem_nil,or_false] at h;rcases h with rfl|rfl;exact hW.pre.subset hV.mem;exact hW.mem
theorem Lx {f:List NV} {i:Nat} (hi:i<f.length) (hO:aK f) {ts:List Tr} (hY:cF f[i].op=false):sg f f[i] ts=fM (aa f i) ts∧CF f f[i] ts=aG (fM (aa f i) ts) (aa f i):=by
 have hok:=hO i hi;have hy0:=hok.y0 hY;rcases cd hi hO with ⟨h,ht⟩|⟨h,_,ht⟩|⟨h,_⟩;have hx0:=hok.x0 h;rw [ht];constructor;simp [sg,h,fM];simp only [CF,h,aG];simp [hx0,hy0];rw [ht];constructor;simp [sg,h,fM];simp only [CF,h,aG,sg,if_true,fM];simp [hy0];rw [hY] at h;cases h
theorem Ic {f:List NV} {i:Nat} (hi:i<f.length) (hO:aK f) {ts:List Tr} (hc:mI ts) (hn:ts.Nodup) (hY:cF f[i].op=true):
  visit (aa f f[i].y.toNat) (sg f f[i] ts)=fM (aa f i) ts∧{CF f f[i] ts with y:=((visit (aa f f[i].y.toNat) (sg f f[i] ts)).idxOf (aa f f[i].y.toNat):Int)}=aG (fM (aa f i) ts) (aa f i):=by
 have hX:=dI hY;rcases cd hi hO with ⟨h,ht⟩|⟨_,h,ht⟩|⟨_,ht⟩;rw [hX] at h;cases h;rw [hY] at h;cases h;have hV:=eM (aa f f[i].x.toNat) hc hn;have hW:=eM (aa f f[i].y.toNat) hV.lL hV.nd;rw [ht];constructor;simp [sg,hX,fM];simp only [CF,aG,sg,hX,if_true,fM];rw [ke hW.pre hV.mem]
theorem ab.iX {P:Program} {r:Option Nat} {f:FuncId} {R:Value→World→Prop} {w0:World} {S:List Nat} {Y:List (Nat×Obj)} {n:Nat} {k:List Item} {l:Fl} {h:Hl} {x y:Code} {α:Type} (lf:α→Fl) (hf:α→Hl)
  (hK:∀a,ab P r f R w0 S Y n (.code y::k) (lf a) (hf a))
  (hg:(∀a l h,bh (lf a) l→(∀w Y',St w0 S w h Y'→St w0 S w (hf a) Y')→ab P r f R w0 S Y n (.code y::k) l h)→ab P r f R w0 S Y n (.code x::.code y::k) l h):ab P r f R w0 S Y n (.code x::.code y::k) l h:=
 hg (fun a _ _ hl hh=>(hK a).Im hl hh)
end Go.Proofs.Wit
