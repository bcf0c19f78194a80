/- What calls of the program return, under the conditions that each theorem states. -/
import Derived.Test.YtkpknmgofmohbaaXC13
import Derived.Test.YtkpknmgofmohbaaXC14
import Derived.Test.YtkpknmgofmohbaaXC03
import Derived.Test.YtkpknmgofmohbaaXC05
namespace Go.Proofs.Ytkpknmgofmohbaa
open Go.RowKit Go.Proofs.Wit Try
theorem qT (nn ff ll:Int) (A:Option Addr) (m c b:Nat) (x:AV) (w:World) (hb:w.heap[b]?=some (.cells (bt nn ff ll A m c) 27 (0,0))) (hx:(x.xs.length:Int)=nn):
  Cn Try.prog 33 [x.v,ptr b] w (fun v _=>v=.bool false):=by
 have HB:∀{w':World} {j:Nat} {u:Value},Ex [] w w'→(bt nn ff ll A m c)[j]?=some u→w'.cell? ⟨b,j,none⟩=some u:=fun e h=>Ex.cell e hb h
 refine Cn.of func33 rfl rfl ?_
 refine gS (gR ?_);refine ai ?_;refine gE (gS (gR ?_));refine ad ?_;refine cq xy ?_;refine ak xw xk 0 ?_
 refine aa.v (ah.ld (p:=⟨b,0,none⟩) rfl rfl rfl rfl xl (fun w _ hS=>HB hS.ext rfl)) ?_
 refine aC rfl rfl rfl rfl (jl (v:=false) (by rw [hx];simp)) ?_
 refine ai ?_;refine gE ?_
 refine gT func33 fun w' hS=>?_
 exact ⟨hS.ext,rfl⟩
theorem qS (nn:Int) (f:Nat) (ll:Int) (A:Option Addr) (m c b:Nat) (x:au) (w:World) (hb:w.heap[b]?=some (.cells (bt nn f ll A m c) 27 (0,0))) (hx:x>>>f=0#64):
  Cn Try.prog 35 [U x,ptr b] w (fun v _=>v=.bool false):=by
 have HB:∀{w':World} {j:Nat} {u:Value},Ex [] w w'→(bt nn f ll A m c)[j]?=some u→w'.cell? ⟨b,j,none⟩=some u:=fun e h=>Ex.cell e hb h
 refine Cn.of func35 rfl rfl ?_
 refine gS (gR ?_);refine ai ?_;refine gE (gS (gR ?_));refine ad ?_;refine ak xw xk 1 ?_
 refine aa.v (ah.ld (p:=⟨b,1,none⟩) rfl rfl rfl rfl xl (fun w _ hS=>HB hS.ext rfl)) ?_
 refine aC rfl rfl rfl rfl (p8 f rfl) ?_
 refine aa.v (ah.bin (b:=U 0#64) rfl rfl rfl rfl (qy (v:=false) (by rw [hx];rfl)) rfl) ?_
 refine ai ?_;refine gE ?_
 refine gT func35 fun w' hS=>?_
 exact ⟨hS.ext,rfl⟩
theorem rr (a:Option Addr) (ca:Nat) (xs:List AV) (nn ff ll:Int) (A:Option Addr) (m c b:Nat) (w:World) (ha:Sl w a (xs.map AV.v)) (hl:xs.length≤100) (hb:w.heap[b]?=some (.cells (bt nn ff ll A m c) 27 (0,0))) (hx:∀x∈xs,(x.xs.length:Int)=nn):
    Cn Try.prog 65 [.slice a xs.length ca,.func (.func 33) ([]:List Value).toArray ([ptr b]:List Value).toArray] w (fun v _=>v=.int .i64 (-1)):=by
  refine Cn.of func65 rfl rfl ?_
  refine gS (gR ?_);refine ai ?_;refine gE (gS (gS (gR ?_)));refine ad ?_;refine cq xP ?_;refine ad ?_;refine gE (gB ?_)
  refine aa.loop (σ:=Nat) (fun k=>[(0,.slice a xs.length ca),(1,.func (.func 33) ([]:List Value).toArray ([ptr b]:List Value).toArray),(7,.int .i64 xs.length),(8,.int .i64 k)]) (fun _=>[])
    (fun k=>k≤xs.length) (fun k=>xs.length - k) 0 (Nat.zero_le _) ⟨rfl,rfl,rfl,rfl,trivial⟩ .slnil (fun k hk IH=>?_)
  refine gS (gR ?_);refine aL db ?_;refine gE (gS ?_)
  refine gC (fun hc=>?_) fun hc=>?_
  ·
   have hlt:k<xs.length:=by have h:=of_decide_eq_true hc;omega
   refine gK (gS (gB (gS (gR ?_))));refine ad ?_;refine ai ?_;refine gE (gS (gR ?_))
   iterate 3 refine ad ?_
   refine aa.v (ah.idx rfl rfl rfl rfl rfl xP sizeOf31 ⟨_,ha⟩ (by simp) k ⟨rfl,by simpa using hlt⟩) ?_
   refine aa.v (ah.ld rfl rfl rfl rfl isAgg31 (fun w _ hS=>(show w.cell? (dk a k)=some (AV.v xs[k]) by rw [(Sl.ex ha hS.ext (by simp)).cell k (by simpa using hlt)];simp [List.getD_eq_getElem?_getD,hlt]))) ?_
   refine aa.dO (fs:=[]) (v:=.bool false) rfl rfl rfl rfl rfl (fun _ _=>call33 _ _) (fun w _ hS=>by exact qT nn ff ll A m c b xs[k] w (hS.ext.jS hb) (hx _ (List.getElem_mem hlt))) ?_
   refine gE (aa.aP rfl (gK (cu (gR ?_))));refine aC rfl rfl rfl rfl (aK (by omega)) ?_;refine ad ?_;refine gE ?_
   exact IH (k+1) _ _ hlt (by omega) ⟨rfl,rfl,rfl,rfl,trivial⟩ .slnil
  refine aa.exit rfl (gS (gR ?_))
  refine ai ?_;refine gE ?_
  refine gT func65 fun w' hS=>?_
  exact ⟨hS.ext,rfl⟩
theorem rN (a:Option Addr) (ca:Nat) (xs:List AV) (nn ff ll:Int) (A:Option Addr) (m c b:Nat) (w:World) (ha:Sl w a (xs.map AV.v)) (hl:xs.length≤100) (hb:w.heap[b]?=some (.cells (bt nn ff ll A m c) 27 (0,0))) (hx:∀x∈xs,(x.xs.length:Int)=nn):
  Cn Try.prog 32 [.slice a xs.length ca,.func (.func 33) ([]:List Value).toArray ([ptr b]:List Value).toArray] w (fun v _=>v=.bool false):=by
 refine Cn.of func32 rfl rfl ?_
 refine gS (gR ?_);refine ai ?_;refine gE (gS (gR ?_))
 iterate 2 refine ad ?_
 refine gP rfl rfl rfl rfl rfl call65 (fun w _ hS=>(by exact rr a ca xs nn ff ll A m c b w (Sl.ex ha hS.ext (by simp)) hl (hS.ext.jS hb) hx)) ?_
 refine aC rfl rfl rfl rfl (jm (v:=false) (by decide)) ?_
 refine ai ?_;refine gE ?_
 refine gT func32 fun w' hS=>?_
 exact ⟨hS.ext,rfl⟩
theorem rq (a:Option Addr) (ca:Nat) (xs:List au) (nn ff ll:Int) (A:Option Addr) (m c b:Nat) (w:World) (ha:Sl w a (xs.map U)) (hl:xs.length≤100) (hb:w.heap[b]?=some (.cells (bt nn ff ll A m c) 27 (0,0))) (f:Nat) (hf:ff=f) (hx:∀x∈xs,x>>>f=0#64):
    Cn Try.prog 66 [.slice a xs.length ca,.func (.func 35) ([]:List Value).toArray ([ptr b]:List Value).toArray] w (fun v _=>v=.int .i64 (-1)):=by
  refine Cn.of func66 rfl rfl ?_
  refine gS (gR ?_);refine ai ?_;refine gE (gS (gS (gR ?_)));refine ad ?_;refine cq xT ?_;refine ad ?_;refine gE (gB ?_)
  refine aa.loop (σ:=Nat) (fun k=>[(0,.slice a xs.length ca),(1,.func (.func 35) ([]:List Value).toArray ([ptr b]:List Value).toArray),(7,.int .i64 xs.length),(8,.int .i64 k)]) (fun _=>[])
    (fun k=>k≤xs.length) (fun k=>xs.length - k) 0 (Nat.zero_le _) ⟨rfl,rfl,rfl,rfl,trivial⟩ .slnil (fun k hk IH=>?_)
  refine gS (gR ?_);refine aL db ?_;refine gE (gS ?_)
  refine gC (fun hc=>?_) fun hc=>?_
  ·
   have hlt:k<xs.length:=by have h:=of_decide_eq_true hc;omega
   refine gK (gS (gB (gS (gR ?_))));refine ad ?_;refine ai ?_;refine gE (gS (gR ?_))
   iterate 3 refine ad ?_
   refine aa.v (ah.idx rfl rfl rfl rfl rfl xT sizeOf34 ⟨_,ha⟩ (by simp) k ⟨rfl,by simpa using hlt⟩) ?_
   refine aa.v (ah.ld rfl rfl rfl rfl isAgg34 (fun w _ hS=>(show w.cell? (dk a k)=some (U xs[k]) by rw [(Sl.ex ha hS.ext (by simp)).cell k (by simpa using hlt)];simp [List.getD_eq_getElem?_getD,hlt]))) ?_
   refine aa.dO (fs:=[]) (v:=.bool false) rfl rfl rfl rfl rfl (fun _ _=>call35 _ _) (fun w _ hS=>by exact qS nn f ll A m c b xs[k] w (by rw [←hf];exact hS.ext.jS hb) (hx _ (List.getElem_mem hlt))) ?_
   refine gE (aa.aP rfl (gK (cu (gR ?_))));refine aC rfl rfl rfl rfl (aK (by omega)) ?_;refine ad ?_;refine gE ?_
   exact IH (k+1) _ _ hlt (by omega) ⟨rfl,rfl,rfl,rfl,trivial⟩ .slnil
  refine aa.exit rfl (gS (gR ?_))
  refine ai ?_;refine gE ?_
  refine gT func66 fun w' hS=>?_
  exact ⟨hS.ext,rfl⟩
theorem rM (a:Option Addr) (ca:Nat) (xs:List au) (nn ff ll:Int) (A:Option Addr) (m c b:Nat) (w:World) (ha:Sl w a (xs.map U)) (hl:xs.length≤100) (hb:w.heap[b]?=some (.cells (bt nn ff ll A m c) 27 (0,0))) (f:Nat) (hf:ff=f) (hx:∀x∈xs,x>>>f=0#64):
  Cn Try.prog 34 [.slice a xs.length ca,.func (.func 35) ([]:List Value).toArray ([ptr b]:List Value).toArray] w (fun v _=>v=.bool false):=by
 refine Cn.of func34 rfl rfl ?_
 refine gS (gR ?_);refine ai ?_;refine gE (gS (gR ?_))
 iterate 2 refine ad ?_
 refine gP rfl rfl rfl rfl rfl call66 (fun w _ hS=>(by exact rq a ca xs nn ff ll A m c b w (Sl.ex ha hS.ext (by simp)) hl (hS.ext.jS hb) f hf hx)) ?_
 refine aC rfl rfl rfl rfl (jm (v:=false) (by decide)) ?_
 refine ai ?_;refine gE ?_
 refine gT func34 fun w' hS=>?_
 exact ⟨hS.ext,rfl⟩
structure dt (n f l:Nat) (rs:List RV):Prop where
  n4:n≤4
  f8:f≤8
  sT:1≤l∧l≤16
  r7:0<rs.length∧rs.length≤20
  ok:∀r∈rs,r.ls.length=l∧r.fs.length=l∧(∀x∈r.ls,(x.xs.length:Int)=n)∧∀x∈r.fs,x>>>f=0#64
set_option maxRecDepth 8000 in
theorem jD (n f l:Nat) (A:Option Addr) (c:Nat) (rs:List RV) (w:World) (hA:gw w A rs) (hok:dt n f l rs):
    Cn Try.prog 17 [mX n f l A rs c] w (fun v _=>v=.int .i64 0):=by
  have h1:=hok.n4
  have h2:=hok.f8
  have h3:=hok.sT
  have h4:=hok.r7
  have hmul:rs.length*l≤20*16:=Nat.mul_le_mul h4.2 h3.2
  refine Cn.of func17 rfl rfl ?_
  refine gS (gR ?_)
  refine aa.bx rfl rfl rfl rfl (fun b1=>?_)
  refine ai ?_;refine gE (gS (gS (gR ?_)));refine ak xw xk 0 ?_;refine aj xl 0 ?_
  refine aC rfl rfl rfl rfl (oB (v:=false) (by simp)) ?_
  refine ad ?_;refine ak xw xk 0 ?_;refine aj xl 0 ?_
  refine aC rfl rfl rfl rfl (kf (v:=false) (decide_eq_false (by omega))) ?_
  refine aN ?_;refine ad ?_;refine ak xw xk 1 ?_;refine aj xl 0 ?_
  refine aC rfl rfl rfl rfl (oB (v:=false) (by simp)) ?_
  refine aN ?_;refine ad ?_;refine ak xw xk 1 ?_;refine aj xl 0 ?_
  refine aC rfl rfl rfl rfl (kf (v:=false) (decide_eq_false (by omega))) ?_
  refine aN ?_;refine ad ?_;refine ak xw xk 2 ?_;refine aj xl 0 ?_
  refine aC rfl rfl rfl rfl (oB (v:=false) (decide_eq_false (by omega))) ?_
  refine aN ?_;refine ad ?_;refine ak xw xk 2 ?_;refine aj xl 0 ?_
  refine aC rfl rfl rfl rfl (kf (v:=false) (decide_eq_false (by omega))) ?_
  refine aN ?_;refine gE (aa.aP rfl (gK (gS (gS (gR ?_)))));refine ak xw xD 3 ?_;refine aj xF 0 ?_;refine cq xB ?_
  refine aC rfl rfl rfl rfl (kf (v:=false) (decide_eq_false (by omega))) ?_
  refine ad ?_;refine ak xw xD 3 ?_;refine aj xF 0 ?_;refine cq xB ?_;refine ak xw xk 2 ?_;refine aj xl 0 ?_
  refine aC rfl rfl rfl rfl (gg (a:=(rs.length:Int)) (b:=(l:Int)) (c:=((rs.length*l:Nat):Int)) (by rw [Int.natCast_mul]) (by omega)) ?_
  refine aC rfl rfl rfl rfl (kf (v:=false) (decide_eq_false (by omega))) ?_
  refine aN ?_;refine gE (aa.aP rfl (gK (gS (gS (gR ?_)))));refine ak xw xD 3 ?_;refine aj xF 0 ?_;refine cq xB ?_
  refine aC rfl rfl rfl rfl (iu (v:=false) (beq_eq_false_iff_ne.2 (by omega))) ?_
  refine gE (aa.aP rfl (gK (gS (gS (gR ?_)))));refine ak xw xD 3 ?_;refine aj xF 0 ?_;refine cq xB ?_;refine ad ?_;refine gE (gB ?_)
  refine aa.loop (σ:=Nat) (fun k=>[(1,ptr b1),(53,.slice A rs.length c),(54,.int .i64 rs.length),(55,.int .i64 k)]) (fun _=>[(some b1,.cells (bt n f l A rs.length c) 27 (0,0))]) (fun k=>k≤rs.length) (fun k=>rs.length - k) 0 (Nat.zero_le _) ⟨rfl,rfl,rfl,rfl,trivial⟩ (List.Sublist.refl _) (fun k hk IH=>?_)
  refine gS (gR ?_);refine aL db ?_;refine gE (gS ?_)
  refine gC (fun hc=>?_) fun hc=>?_
  ·
   have hlt:k<rs.length:=by have h:=of_decide_eq_true hc;omega
   obtain ⟨x,hx⟩:∃x,x=rs[k]:=⟨_,rfl⟩
   have hxm:x∈rs:=by rw [hx];exact List.getElem_mem hlt
   have hxa:=hA.runs x hxm
   obtain ⟨k1,k2,k3,k4⟩:=hok.ok x hxm
   refine gK (gS (gB (gS (gR ?_))))
   refine aa.v (ah.fo rfl rfl rfl rfl rfl xB xH ⟨_,(hA).at_⟩ (aO (enc:=RV.cells) (sz:=2) (fun _=>rfl)) (by decide) (k) ⟨rfl,hlt⟩) ?_
   refine aa.v (ah.ko (cs:=RV.cells x) rfl rfl rfl rfl isAgg38 xH (fun w _ hS=>by rw [hx];exact Sl.many (enc:=RV.cells) (sz:=2) (hA.a8 hS.ext).at_ (fun _=>rfl) hlt)) ?_
   refine aa.dc rfl rfl rfl (fun _=>zeroValue38 _) (fun b4=>?_)
   refine aa.bV rfl rfl rfl rfl xH 0 rfl rfl rfl rfl ?_
   refine gE (gS (gR ?_));refine ak xI sizeOf35 0 ?_;refine aj isAgg35 0 ?_;refine cq xP ?_;refine ak xw xk 2 ?_;refine aj xl 1 ?_
   refine aC rfl rfl rfl rfl (jl (v:=false) (by rw [k1];simp)) ?_
   refine ad ?_;refine ak xI sizeOf36 1 ?_;refine aj isAgg36 0 ?_;refine cq xT ?_;refine ak xw xk 2 ?_;refine aj xl 1 ?_
   refine aC rfl rfl rfl rfl (jl (v:=false) (by rw [k2];simp)) ?_
   refine aN ?_;refine ad ?_;refine ak xI sizeOf35 0 ?_;refine aj isAgg35 0 ?_
   refine aa.v (ah.eg rfl rfl rfl rfl rfl) ?_
   refine gP rfl rfl rfl rfl rfl call32 (fun w _ hS=>(by exact rN x.la x.lc x.ls n f l A rs.length c b1 w (hxa.a8 hS.ext).la (by omega) (hS.get (j:=1) rfl) k3)) ?_
   refine aN ?_;refine gE (aa.aP rfl (gK (cu (gR ?_))));refine aC rfl rfl rfl rfl (aK (by omega)) ?_;refine ad ?_;refine gE ?_
   exact IH (k+1) _ _ hlt (by omega) ⟨rfl,rfl,rfl,rfl,trivial⟩ (.cons _ (List.Sublist.refl _))
  refine aa.exit rfl (gS (gS (gR ?_)))
  refine ak xw xD 3 ?_;refine aj xF 0 ?_;refine cq xB ?_;refine ad ?_;refine gE (gB ?_)
  refine aa.loop (σ:=Nat) (fun k=>[(1,ptr b1),(81,.slice A rs.length c),(82,.int .i64 rs.length),(83,.int .i64 k)]) (fun _=>[(some b1,.cells (bt n f l A rs.length c) 27 (0,0))]) (fun k=>k≤rs.length) (fun k=>rs.length - k) 0 (Nat.zero_le _) ⟨rfl,rfl,rfl,rfl,trivial⟩ (List.Sublist.refl _) (fun k hk IH=>?_)
  refine gS (gR ?_);refine aL db ?_;refine gE (gS ?_)
  refine gC (fun hc=>?_) fun hc=>?_
  ·
   have hlt:k<rs.length:=by have h:=of_decide_eq_true hc;omega
   obtain ⟨x,hx⟩:∃x,x=rs[k]:=⟨_,rfl⟩
   have hxm:x∈rs:=by rw [hx];exact List.getElem_mem hlt
   have hxa:=hA.runs x hxm
   obtain ⟨k1,k2,k3,k4⟩:=hok.ok x hxm
   refine gK (gS (gB (gS (gR ?_))))
   refine aa.v (ah.fo rfl rfl rfl rfl rfl xB xH ⟨_,(hA).at_⟩ (aO (enc:=RV.cells) (sz:=2) (fun _=>rfl)) (by decide) (k) ⟨rfl,hlt⟩) ?_
   refine aa.v (ah.ko (cs:=RV.cells x) rfl rfl rfl rfl isAgg38 xH (fun w _ hS=>by rw [hx];exact Sl.many (enc:=RV.cells) (sz:=2) (hA.a8 hS.ext).at_ (fun _=>rfl) hlt)) ?_
   refine aa.dc rfl rfl rfl (fun _=>zeroValue38 _) (fun b6=>?_)
   refine aa.bV rfl rfl rfl rfl xH 0 rfl rfl rfl rfl ?_
   refine gE (gS (gR ?_));refine ak xI sizeOf36 1 ?_;refine aj isAgg36 0 ?_
   refine aa.v (ah.eg rfl rfl rfl rfl rfl) ?_
   refine gP rfl rfl rfl rfl rfl call34 (fun w _ hS=>(by exact rM x.fa x.fc x.fs n f l A rs.length c b1 w (hxa.a8 hS.ext).fs (by omega) (hS.get (j:=1) rfl) f rfl k4)) ?_
   refine gE (aa.aP rfl (gK (cu (gR ?_))));refine aC rfl rfl rfl rfl (aK (by omega)) ?_;refine ad ?_;refine gE ?_
   exact IH (k+1) _ _ hlt (by omega) ⟨rfl,rfl,rfl,rfl,trivial⟩ (.cons _ (List.Sublist.refl _))
  refine aa.exit rfl (gS (gR ?_))
  refine ai ?_;refine gE ?_
  refine gT func17 fun w' hS=>?_
  exact ⟨hS.ext,rfl⟩
/-- the points: by run and then by time -/
def ie (l r t:Nat):List CD:=(List.range r).flatMap (fun r=>(List.range l).map (fun t=>(r,t)))++(List.range t).map (fun t=>(r,t))
def eG (m l:Nat):List CD:=ie l m 0
theorem sv {l r t:Nat}:ie l r (t+1)=ie l r t++[(r,t)]:=by unfold ie;rw [List.range_succ,List.map_append,List.append_assoc];rfl
theorem nk {l r:Nat}:ie l r l=ie l (r+1) 0:=by unfold ie;rw [List.range_succ,List.flatMap_append];simp
theorem gy {l r t:Nat}:(ie l r t).length=r*l+t:=by
 unfold ie
 rw [List.length_append,List.length_map,List.length_range]
 congr 1
 induction r with
 |zero=>simp
 |succ r ih=>rw [List.range_succ,List.flatMap_append,List.length_append,ih,Nat.succ_mul];simp
theorem gz {m l:Nat} {p:CD}:p∈eG m l↔p.1<m∧p.2<l:=by
 unfold eG ie
 simp only [List.range_zero,List.map_nil,List.append_nil,List.mem_flatMap,List.mem_range,List.mem_map]
 constructor
 ·rintro ⟨r,h1,t,h2,rfl⟩;exact ⟨h1,h2⟩
 rintro ⟨h1,h2⟩;exact ⟨p.1,h1,p.2,h2,rfl⟩
theorem nQ:(Try.prog.info? 97).map (fun i=>(i.zero,i.size,i.bytes))=some (some (.agg #[.int .i64 0,.int .i64 0]),2,16):=by kernel_rfl
set_option maxRecDepth 8000 in
theorem ma (n f l:Nat) (A:Option Addr) (c:Nat) (rs:List RV) (w:World) (hA:gw w A rs) (hok:dt n f l rs):
    Cn Try.prog 42 [mX n f l A rs c] w (fun v w'=>eW 97 w w' v (eG rs.length l)):=by
  obtain ⟨i0,hi0,hz0,hsz0,hby0⟩:=info_parts nQ
  have h3:=hok.sT
  have h4:=hok.r7
  refine Cn.of func42 rfl rfl ?_
  refine gS (gR ?_)
  refine aa.bx rfl rfl rfl rfl (fun b1=>?_)
  refine ai ?_;refine gE (gS (gS (gR ?_)))
  refine aa.v (ah.eR rfl rfl rfl rfl xK 0 rfl xz rfl) ?_
  refine gP rfl rfl rfl rfl rfl call17 (fun w _ hS=>(by exact jD n f l A c rs w (hA.a8 hS.ext) hok)) ?_
  refine aC rfl rfl rfl rfl (jl (v:=false) rfl) ?_
  refine gE (aa.aP rfl (gK (gS (gR ?_))));refine ai ?_;refine gE (gS (gS (gR ?_)));refine ak xw xD 3 ?_;refine aj xF 0 ?_;refine cq xB ?_;refine ad ?_;refine gE (gB ?_)
  refine aa.cw (eP 97 [] []) ?_
  refine aa.loop (σ:=Nat×Option Nat×Nat×List Value) (fun z=>[(1,ptr b1),(3,aU z.2.1 (ie l z.1 0).length z.2.2.1),(10,.slice A rs.length c),(11,.int .i64 rs.length),(12,.int .i64 z.1)]) (fun z=>[(z.2.1,eP 97 (ie l z.1 0) z.2.2.2),(some b1,.cells (bt n f l A rs.length c) 27 (0,0))])
    (fun z=>z.1≤rs.length∧(z.2.1=none→(ie l z.1 0).length=0∧z.2.2.1=0)∧((ie l z.1 0).flatMap cG++z.2.2.2).length=z.2.2.1*2) (fun z=>rs.length - z.1) (0,none,0,[]) ⟨Nat.zero_le _,fun _=>⟨rfl,rfl⟩,rfl⟩ ⟨rfl,rfl,rfl,rfl,rfl,trivial⟩ (List.Sublist.refl _) (fun z hI IH=>?_)
  obtain ⟨r,q,cap,sp⟩:=z
  obtain ⟨hr,hq,hcap⟩:=hI
  dsimp only at hr hq hcap IH⊢
  refine gS (gR ?_);refine aL db ?_;refine gE (gS ?_)
  refine gC (fun hc=>?_) fun hc=>?_
  ·
   have hrl:r<rs.length:=by have h:=of_decide_eq_true hc;omega
   have hrm:r*l≤20*16:=Nat.mul_le_mul (by omega) h3.2
   refine gK (gS (gB (gS (gR ?_))));refine ad ?_;refine ai ?_;refine gE (gS (gR ?_));refine ak xw xk 2 ?_;refine aj xl 1 ?_;refine ad ?_;refine gE (gB ?_)
   refine aa.loop (σ:=Nat×Option Nat×Nat×List Value) (fun z=>[(1,ptr b1),(3,aU z.2.1 (ie l r z.1).length z.2.2.1),(10,.slice A rs.length c),(11,.int .i64 rs.length),(12,.int .i64 r),(4,.int .i64 r),(16,.int .i64 l),(17,.int .i64 z.1)]) (fun z=>[(z.2.1,eP 97 (ie l r z.1) z.2.2.2),(some b1,.cells (bt n f l A rs.length c) 27 (0,0))])
     (fun z=>z.1≤l∧(z.2.1=none→(ie l r z.1).length=0∧z.2.2.1=0)∧((ie l r z.1).flatMap cG++z.2.2.2).length=z.2.2.1*2) (fun z=>l - z.1) (0,q,cap,sp) ⟨Nat.zero_le _,hq,hcap⟩ ⟨rfl,rfl,rfl,rfl,rfl,rfl,rfl,rfl,trivial⟩ (List.Sublist.refl _) (fun z hI IH2=>?_)
   obtain ⟨t,q,cap,sp⟩:=z
   obtain ⟨ht,hq,hcap⟩:=hI
   dsimp only at ht hq hcap IH2⊢
   have hpl:=gy (l:=l) (r:=r) (t:=t)
   refine gS (gR ?_);refine aL db ?_;refine gE (gS ?_)
   refine gC (fun hc=>?_) fun hc=>?_
   ·
    have htl:t<l:=by have h:=of_decide_eq_true hc;omega
    refine gK (gS (gB (gS (gR ?_))));refine ad ?_;refine ai ?_;refine gE (gR ?_)
    iterate 3 refine ad ?_
    refine aa.v (ah.eM rfl rfl rfl rfl (bd97 (c:=[_,_]) rfl)) ?_
    refine aa.fR (c:=[_,_]) rfl rfl rfl rfl xQ xN zeroValue97 rfl rfl (fun b24=>?_)
    refine aa.app 2 (xs:=(ie l r t).flatMap cG) (sp:=sp) (nx:=(ie l r t).length) (q:=q) (news:=cG (r,t)) (spn:=[]) rfl rfl rfl rfl rfl xQ hi0 hz0 hsz0 rfl hq 1 rfl 0 rfl iK hcap rfl (by decide) eU (by unfold maxLen;omega) (by rw [hby0];omega) (fun b' sp' cap' hlen=>?_)
    rw [fQ,←sv] at hlen⊢
    rw [show (ie l r t).length+1=(ie l r (t+1)).length by rw [gy,gy];omega]
    refine ai ?_;refine gE (cu (gR ?_));refine aC rfl rfl rfl rfl (aK (by omega)) ?_;refine ad ?_;refine gE ?_
    exact IH2 (t+1,some b',cap',sp') _ _ ⟨htl,(fun e=>by cases e),hlen⟩ (by dsimp only;omega) ⟨rfl,rfl,rfl,rfl,rfl,rfl,rfl,rfl,trivial⟩ (.cons _ (List.Sublist.refl _))
   have htl:¬t<l:=by have h:=of_decide_eq_false hc;omega
   obtain rfl:l=t:=by omega
   rw [nk] at hq hcap
   refine aa.exit rfl (cu (gR ?_))
   refine aC rfl rfl rfl rfl (aK (by omega)) ?_;refine ad ?_;refine gE ?_
   exact IH (r+1,q,cap,sp) _ _ ⟨hrl,hq,hcap⟩ (by dsimp only;omega) ⟨rfl,by dsimp only;rw [←nk];rfl,rfl,rfl,rfl,trivial⟩ (by dsimp only;rw [←nk];exact List.Sublist.refl _)
  have hrl:¬r<rs.length:=by have h:=of_decide_eq_false hc;omega
  obtain rfl:rs.length=r:=by omega
  refine aa.exit rfl (gS (gR ?_))
  refine ad ?_;refine ai ?_;refine gE ?_
  refine gT func42 fun w' hS=>?_
  exact ⟨hS.ext,eW.mk hS 0 rfl hq hcap⟩
end Go.Proofs.Ytkpknmgofmohbaa
