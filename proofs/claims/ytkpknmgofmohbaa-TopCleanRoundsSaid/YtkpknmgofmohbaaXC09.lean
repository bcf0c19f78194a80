/- What calls of the program return, under the conditions that each theorem states. -/
import Derived.Test.YtkpknmgofmohbaaXC07
import Derived.Test.YtkpknmgofmohbaaXC08
import Derived.Test.YtkpknmgofmohbaaXC03
import Derived.Test.YtkpknmgofmohbaaXC05
namespace Go.Proofs.Ytkpknmgofmohbaa
open Go.RowKit Go.Proofs.Wit Try
def mX (n f l:Int) (A:Option Addr) (rs:List RV) (c:Nat):Value:=.agg (bt n f l A rs.length c)
theorem k9 {r:RV} {t p:Nat} (ht:t<r.ls.length) (hp:p<r.ls[t].xs.length):eX r.d t p=r.ls[t].xs[p]:=by
 simp [eX,RV.d,List.getD_eq_getElem?_getD,ht,hp]
theorem jq (n f l:Int) (A:Option Addr) (c:Nat) (rs:List RV) (r t p:Nat) (w:World) (hA:gw w A rs) (hr:r<rs.length) (ht:t<rs[r].ls.length) (hp:p<rs[r].ls[t].xs.length):
  Cn Try.prog 6 [mX n f l A rs c,.int .i64 r,.int .i64 t,.int .i64 p] w (fun v _=>v=.int .i64 (eX rs[r].d t p)):=by
 obtain ⟨x,hx⟩:∃x,x=rs[r]:=⟨_,rfl⟩
 have hra:=hA.runs _ (List.getElem_mem hr)
 rw [←hx] at hra
 have hlx:(rs[r].ls.length)=x.ls.length:=by rw [hx]
 obtain ⟨y,hy⟩:∃y,y=rs[r].ls[t]:=⟨_,rfl⟩
 have ht':t<x.ls.length:=by omega
 have hyx:x.ls[t]=y:=by subst hx;exact hy.symm
 have hyl:=hra.ls y (by rw [←hyx];exact List.getElem_mem ht')
 have hp':p<y.xs.length:=by rw [hy];exact hp
 have hv:eX rs[r].d t p=y.xs[p]:=by rw [k9 ht hp];simp [hy]
 rw [hv]
 refine Cn.of func6 rfl rfl ?_
 refine gS (gR ?_)
 refine aa.bx rfl rfl rfl rfl (fun b4=>?_)
 refine ai ?_;refine gE (gS (gR ?_));refine ak xw xD 3 ?_;refine aj xF 0 ?_;refine ad ?_
 refine aa.v (ah.fo rfl rfl rfl rfl rfl xB xH ⟨_,(hA).at_⟩ (aO (enc:=RV.cells) (sz:=2) (fun _=>rfl)) (by decide) (r) ⟨rfl,hr⟩) ?_
 refine aa.v (ah.ko (cs:=RV.cells x) rfl rfl rfl rfl isAgg38 xH (fun w _ hS=>by rw [hx];exact Sl.many (enc:=RV.cells) (sz:=2) (hA.a8 hS.ext).at_ (fun _=>rfl) hr)) ?_
 refine aa.dc rfl rfl rfl (fun _=>zeroValue38 _) (fun b9=>?_)
 refine aa.bV rfl rfl rfl rfl xH 0 rfl rfl rfl rfl ?_
 refine gE (gS (gS (gR ?_)));refine ad ?_;refine ak xI sizeOf35 0 ?_;refine aj isAgg35 0 ?_;refine cq xP ?_
 refine aC rfl rfl rfl rfl (jm (v:=false) (decide_eq_false (by omega))) ?_
 iterate 2 refine ad ?_
 refine ak xI sizeOf35 0 ?_;refine aj isAgg35 0 ?_;refine ad ?_
 refine aa.v (ah.idx rfl rfl rfl rfl rfl xP sizeOf31 ⟨_,hra.la⟩ (by simp) t ⟨rfl,by simpa using ht'⟩) ?_
 refine aa.v (ah.ld rfl rfl rfl rfl isAgg31 (fun w _ hS=>(show w.cell? (dk x.la t)=some (AV.v y) by rw [(hra.a8 hS.ext).la.cell t (by simpa using ht')];simp [List.getD_eq_getElem?_getD,ht',hyx]))) ?_
 refine cq xy ?_
 refine aC rfl rfl rfl rfl (jm (v:=false) (decide_eq_false (by omega))) ?_
 refine aN ?_;refine gE (aa.aP rfl (gK (gS (gR ?_))));refine ak xI sizeOf35 0 ?_;refine aj isAgg35 0 ?_;refine ad ?_
 refine aa.v (ah.idx rfl rfl rfl rfl rfl xP sizeOf31 ⟨_,hra.la⟩ (by simp) t ⟨rfl,by simpa using ht'⟩) ?_
 refine aa.v (ah.ld rfl rfl rfl rfl isAgg31 (fun w _ hS=>(show w.cell? (dk x.la t)=some (AV.v y) by rw [(hra.a8 hS.ext).la.cell t (by simpa using ht')];simp [List.getD_eq_getElem?_getD,ht',hyx]))) ?_
 refine ad ?_
 refine aa.v (ah.idx rfl rfl rfl rfl rfl xy xk ⟨_,hyl⟩ (by simp) (p) ⟨rfl,by simpa using hp'⟩) ?_
 refine aa.v (ah.ld rfl rfl rfl rfl xl (fun w _ hS=>(ki.a8 hyl hS.ext).at (p) hp')) ?_
 refine ai ?_;refine gE ?_
 refine gT func6 fun w' hS=>?_
 exact ⟨hS.ext,rfl⟩
theorem nM (s n p:Nat) (hs:0<s∧s<1000) (hn:0<n) (hp:p≤3) (w:World):Cn Try.prog 7 [.int .i64 s,.int .i64 n,.int .i64 p] w (fun v _=>v=.bool (rm s p)):=by
  refine Cn.of func7 rfl rfl ?_
  refine gS (gR ?_);refine ai ?_;refine gE (gS (gR ?_));refine ad ?_
  refine aC rfl rfl rfl rfl (lW (c:=((s - 1:Nat):Int)) (by omega) (by omega)) ?_
  refine ai ?_;refine gE (gS (gS (gR ?_)))
  iterate 2 refine ad ?_
  refine gE (gB ?_)
  refine aa.loop (σ:=Nat) (fun k=>[(1,.int .i64 n),(7,.int .i64 (((s - 1) / 3^k:Nat):Int)),(10,.int .i64 p),(11,.int .i64 k)]) (fun _=>[]) (fun k=>k≤p) (fun k=>p - k) 0 (Nat.zero_le _) ⟨rfl,by rw [Nat.pow_zero,Nat.div_one];rfl,rfl,rfl,trivial⟩ .slnil (fun k hk IH=>?_)
  have hdv:(s - 1) / 3^k≤s - 1:=Nat.div_le_self _ _
  refine gS (gR ?_);refine aL db ?_;refine gE (gS ?_)
  refine gC (fun hc=>?_) fun hc=>?_
  ·
   have hlt:k<p:=by have h:=of_decide_eq_true hc;omega
   refine gK (gS (gB (gR ?_)));refine ad ?_
   refine aC rfl rfl rfl rfl (tk (m:=3) rfl (by decide) (Nat.lt_of_le_of_lt hdv (by omega))) ?_
   refine ai ?_;refine gE (cu (gR ?_));refine aC rfl rfl rfl rfl (aK (by omega)) ?_;refine ad ?_;refine gE ?_
   exact IH (k+1) _ _ hlt (by omega) ⟨rfl,by rw [Nat.pow_succ,←Nat.div_div_eq_div_mul];rfl,rfl,rfl,trivial⟩ .slnil
  have hge:¬k<p:=by have h:=of_decide_eq_false hc;omega
  obtain rfl:p=k:=by omega
  refine aa.exit rfl (gS (gR ?_))
  refine ad ?_
  refine aC rfl rfl rfl rfl (kf (v:=true) (by simp;omega)) ?_
  iterate 2 refine ad ?_
  refine aC rfl rfl rfl rfl (qw (m:=3) rfl (by decide)) ?_
  refine aL eV ?_;refine aV ?_;refine ai ?_;refine gE ?_
  refine gT func7 fun w' hS=>?_
  exact ⟨hS.ext,by
  have e:((((s - 1) / 3^p%3:Nat):Int) !=0)=rm s p:=by
    unfold rm
    rw [Int.toNat_natCast]
    by_cases h:(s - 1) / 3^p%3=0
    · rw [h];rfl
    have h2:((((s - 1) / 3^p%3:Nat):Int) !=0)=true:=by rw [bne_iff_ne];omega
    rw [h2,beq_eq_false_iff_ne.2 h];rfl
  rw [←e];rfl⟩
end Go.Proofs.Ytkpknmgofmohbaa
