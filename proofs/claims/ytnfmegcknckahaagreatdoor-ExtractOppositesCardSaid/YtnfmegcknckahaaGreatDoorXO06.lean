/- What calls of the program return, under the conditions that each theorem states. -/
import Derived.Test.YtnfmegcknckahaaGreatDoorXO04
import Derived.Test.YtnfmegcknckahaaGreatDoorXO05
import Derived.Test.YtnfmegcknckahaaGreatDoorXO03
namespace Go.Proofs.YtnfmegcknckahaaGreatDoor
open Go.RowKit Go.Proofs.Wit Tryz
theorem vu:∃fs,Tryz.prog.underlying 66=some (.struct fs)∧pI fs 3:=⟨_,Jb,_,_,_,_,_,_,rfl,⟨by decide,rfl,rfl⟩,⟨by decide,rfl,rfl⟩,⟨by decide,rfl,rfl⟩,⟨by decide,rfl,rfl⟩,⟨by decide,rfl,rfl⟩,⟨by decide,rfl,rfl⟩⟩
theorem xI:Tryz.prog.stoodInHeld 66=false:=by kernel_rfl
theorem DJ:Tryz.prog.eqGuardType Tryz.prog.depth 66=false:=by kernel_rfl
theorem Cd:(Tryz.prog.info? 66).map (fun i=>(i.zero,i.size,i.bytes))=some (some GG.v,6,48):=by kernel_rfl
structure vZ (q:Option Nat) (cap:Nat) (ts:List Tr) (sp:List Value):Prop where
  nil:q=none→(aS ts).length=0∧cap=0
  cap:((aS ts).flatMap NV.cells++sp).length=cap*6
  oL:lY ts
  nd:ts.Nodup
  wf:∀u∈ts,u.wf
theorem wB {ts:List Tr} {t:Tr} (ht:t∉ts):(ts++[t]).idxOf t=ts.length:=by
 rw [List.idxOf_append,if_neg ht];simp
end Go.Proofs.YtnfmegcknckahaaGreatDoor
namespace Go.Proofs.YtnfmegcknckahaaGreatDoor
open Go.RowKit Go.Proofs.Wit Tryz
set_option maxRecDepth 4000 in
theorem gV (op:Int) (w:World):Cn Tryz.prog 105 [.int .i64 op] w (fun v _=>v=.tuple #[qJ op,.bool (okO op)]):=by
  refine Cn.of JJ rfl rfl ?_
  refine gS (gR ?_)
  refine ab.eN rfl rfl rfl (fun _=>JZ _) (fun b2=>?_)
  refine ai ?_;refine gE (gS (gS (gR ?_)));refine ah ?_;refine gE (gB (gS (gS (gR ?_))));refine aw bh ?_;refine ai ?_;refine gE ?_
  refine gC (fun hc=>?_) fun hc=>?_
  ·
   have h:op=1:=by simpa using hc
   refine gK ?_
   refine ab.cond rfl (fun _=>?_) (fun hc=>by exfalso;simp [h] at hc)
   refine gS (gR ?_)
   refine ab.v (ae.eM rfl rfl rfl rfl (bd122 (c:=[_,_,_,_,_,_,_]) rfl)) ?_
   refine ab.dG rfl rfl rfl rfl Jl 0 rfl rfl rfl rfl ?_
   refine ai ?_;refine gE ?_
   refine ab.fH Tryz.f105 JJ _ (aP.cell rfl JK Jl (j:=0) rfl rfl (aP.tmp rfl aP.nil)) (fun w' hS=>?_)
   exact ⟨hS.ext,by subst h;rfl⟩
  have h1:op≠1:=by simpa using hc
  refine gR ?_;refine aw bh ?_;refine ai ?_;refine gE ?_
  refine gC (fun hc=>?_) fun hc=>?_
  ·
   have h:op=2:=by simpa using hc
   refine gS (gR ?_)
   refine ab.v (ae.eM rfl rfl rfl rfl (bd122 (c:=[_,_,_,_,_,_,_]) rfl)) ?_
   refine ab.dG rfl rfl rfl rfl Jl 0 rfl rfl rfl rfl ?_
   refine ai ?_;refine gE ?_
   refine ab.fH Tryz.f105 JJ _ (aP.cell rfl JK Jl (j:=0) rfl rfl (aP.tmp rfl aP.nil)) (fun w' hS=>?_)
   exact ⟨hS.ext,by subst h;rfl⟩
  have h2:op≠2:=by simpa using hc
  refine gS (gR ?_);refine aw bh ?_;refine ai ?_;refine gE ?_
  refine gC (fun hc=>?_) fun hc=>?_
  ·
   have h:op=3:=by simpa using hc
   refine gS (gR ?_)
   refine ab.v (ae.eM rfl rfl rfl rfl (bd122 (c:=[_,_,_,_,_,_,_]) rfl)) ?_
   refine ab.dG rfl rfl rfl rfl Jl 0 rfl rfl rfl rfl ?_
   refine ai ?_;refine gE ?_
   refine ab.fH Tryz.f105 JJ _ (aP.cell rfl JK Jl (j:=0) rfl rfl (aP.tmp rfl aP.nil)) (fun w' hS=>?_)
   exact ⟨hS.ext,by subst h;rfl⟩
  have h3:op≠3:=by simpa using hc
  refine gS (gR ?_);refine aw bh ?_;refine ai ?_;refine gE ?_
  refine gC (fun hc=>?_) fun hc=>?_
  ·
   have h:op=4:=by simpa using hc
   refine gS (gR ?_)
   refine ab.v (ae.eM rfl rfl rfl rfl (bd122 (c:=[_,_,_,_,_,_,_]) rfl)) ?_
   refine ab.dG rfl rfl rfl rfl Jl 0 rfl rfl rfl rfl ?_
   refine ai ?_;refine gE ?_
   refine ab.fH Tryz.f105 JJ _ (aP.cell rfl JK Jl (j:=0) rfl rfl (aP.tmp rfl aP.nil)) (fun w' hS=>?_)
   exact ⟨hS.ext,by subst h;rfl⟩
  have h4:op≠4:=by simpa using hc
  refine gS (gS (gR ?_));refine aw bh ?_;refine ai ?_;refine gE ?_
  refine gC (fun hc=>?_) fun hc=>?_
  ·
   have h:op=5:=by simpa using hc
   refine gK ?_
   refine ab.cond rfl (fun _=>?_) (fun hc=>by exfalso;simp [h] at hc)
   refine gS (gR ?_)
   refine ab.v (ae.eM rfl rfl rfl rfl (bd122 (c:=[_,_,_,_,_,_,_]) rfl)) ?_
   refine ab.dG rfl rfl rfl rfl Jl 0 rfl rfl rfl rfl ?_
   refine ai ?_;refine gE ?_
   refine ab.fH Tryz.f105 JJ _ (aP.cell rfl JK Jl (j:=0) rfl rfl (aP.tmp rfl aP.nil)) (fun w' hS=>?_)
   exact ⟨hS.ext,by subst h;rfl⟩
  have h5:op≠5:=by simpa using hc
  refine gS (gR ?_);refine aw bh ?_;refine ai ?_;refine gE ?_
  refine gC (fun hc=>?_) fun hc=>?_
  ·
   have h:op=6:=by simpa using hc
   refine gK ?_
   refine ab.cond rfl (fun _=>?_) (fun hc=>by exfalso;simp [h] at hc)
   refine gS (gR ?_)
   refine ab.v (ae.eM rfl rfl rfl rfl (bd122 (c:=[_,_,_,_,_,_,_]) rfl)) ?_
   refine ab.dG rfl rfl rfl rfl Jl 0 rfl rfl rfl rfl ?_
   refine ai ?_;refine gE ?_
   refine ab.fH Tryz.f105 JJ _ (aP.cell rfl JK Jl (j:=0) rfl rfl (aP.tmp rfl aP.nil)) (fun w' hS=>?_)
   exact ⟨hS.ext,by subst h;rfl⟩
  have h6:op≠6:=by simpa using hc
  refine gS (gR ?_);refine aw bh ?_;refine ai ?_;refine gE ?_
  refine gC (fun hc=>?_) fun hc=>?_
  ·
   have h:op=7:=by simpa using hc
   refine gK ?_
   refine ab.cond rfl (fun _=>?_) (fun hc=>by exfalso;simp [h] at hc)
   refine gS (gR ?_)
   refine ab.v (ae.eM rfl rfl rfl rfl (bd122 (c:=[_,_,_,_,_,_,_]) rfl)) ?_
   refine ab.dG rfl rfl rfl rfl Jl 0 rfl rfl rfl rfl ?_
   refine ai ?_;refine gE ?_
   refine ab.fH Tryz.f105 JJ _ (aP.cell rfl JK Jl (j:=0) rfl rfl (aP.tmp rfl aP.nil)) (fun w' hS=>?_)
   exact ⟨hS.ext,by subst h;rfl⟩
  have h7:op≠7:=by simpa using hc
  refine gR ?_;refine aw bh ?_;refine ai ?_;refine gE ?_
  refine gC (fun hc=>?_) fun hc=>?_
  ·
   have h:op=8:=by simpa using hc
   refine gS (gR ?_)
   refine ab.v (ae.eM rfl rfl rfl rfl (bd122 (c:=[_,_,_,_,_,_,_]) rfl)) ?_
   refine ab.dG rfl rfl rfl rfl Jl 0 rfl rfl rfl rfl ?_
   refine ai ?_;refine gE ?_
   refine ab.fH Tryz.f105 JJ _ (aP.cell rfl JK Jl (j:=0) rfl rfl (aP.tmp rfl aP.nil)) (fun w' hS=>?_)
   exact ⟨hS.ext,by subst h;rfl⟩
  have h8:op≠8:=by simpa using hc
  refine gS (gS (gR ?_));refine aw bh ?_;refine ai ?_;refine gE ?_
  refine gC (fun hc=>?_) fun hc=>?_
  ·
   have h:op=9:=by simpa using hc
   refine gK ?_
   refine ab.cond rfl (fun _=>?_) (fun hc=>by exfalso;simp [h] at hc)
   refine gS (gR ?_)
   refine ab.v (ae.eM rfl rfl rfl rfl (bd122 (c:=[_,_,_,_,_,_,_]) rfl)) ?_
   refine ab.dG rfl rfl rfl rfl Jl 0 rfl rfl rfl rfl ?_
   refine ai ?_;refine gE ?_
   refine ab.fH Tryz.f105 JJ _ (aP.cell rfl JK Jl (j:=0) rfl rfl (aP.tmp rfl aP.nil)) (fun w' hS=>?_)
   exact ⟨hS.ext,by subst h;rfl⟩
  have h9:op≠9:=by simpa using hc
  refine gR ?_;refine aw bh ?_;refine ai ?_;refine gE ?_
  refine gC (fun hc=>?_) fun hc=>?_
  ·
   have h:op=10:=by simpa using hc
   refine gS (gR ?_)
   refine ab.v (ae.eM rfl rfl rfl rfl (bd122 (c:=[_,_,_,_,_,_,_]) rfl)) ?_
   refine ab.dG rfl rfl rfl rfl Jl 0 rfl rfl rfl rfl ?_
   refine ai ?_;refine gE ?_
   refine ab.fH Tryz.f105 JJ _ (aP.cell rfl JK Jl (j:=0) rfl rfl (aP.tmp rfl aP.nil)) (fun w' hS=>?_)
   exact ⟨hS.ext,by subst h;rfl⟩
  have h10:op≠10:=by simpa using hc
  refine gS (gR ?_);refine aw bh ?_;refine ai ?_;refine gE ?_
  refine gC (fun hc=>?_) fun hc=>?_
  ·
   have h:op=11:=by simpa using hc
   refine gS (gR ?_)
   refine ab.v (ae.eM rfl rfl rfl rfl (bd122 (c:=[_,_,_,_,_,_,_]) rfl)) ?_
   refine ab.dG rfl rfl rfl rfl Jl 0 rfl rfl rfl rfl ?_
   refine ai ?_;refine gE ?_
   refine ab.fH Tryz.f105 JJ _ (aP.cell rfl JK Jl (j:=0) rfl rfl (aP.tmp rfl aP.nil)) (fun w' hS=>?_)
   exact ⟨hS.ext,by subst h;rfl⟩
  have h11:op≠11:=by simpa using hc
  refine gS (gR ?_);refine aw bh ?_;refine ai ?_;refine gE ?_
  refine gC (fun hc=>?_) fun hc=>?_
  ·
   have h:op=12:=by simpa using hc
   refine gS (gR ?_)
   refine ab.v (ae.eM rfl rfl rfl rfl (bd122 (c:=[_,_,_,_,_,_,_]) rfl)) ?_
   refine ab.dG rfl rfl rfl rfl Jl 0 rfl rfl rfl rfl ?_
   refine ai ?_;refine gE ?_
   refine ab.fH Tryz.f105 JJ _ (aP.cell rfl JK Jl (j:=0) rfl rfl (aP.tmp rfl aP.nil)) (fun w' hS=>?_)
   exact ⟨hS.ext,by subst h;rfl⟩
  have h12:op≠12:=by simpa using hc
  refine gS (gR ?_);refine aw bh ?_;refine ai ?_;refine gE ?_
  refine gC (fun hc=>?_) fun hc=>?_
  ·
   have h:op=13:=by simpa using hc
   refine gS (gR ?_)
   refine ab.v (ae.eM rfl rfl rfl rfl (bd122 (c:=[_,_,_,_,_,_,_]) rfl)) ?_
   refine ab.dG rfl rfl rfl rfl Jl 0 rfl rfl rfl rfl ?_
   refine ai ?_;refine gE ?_
   refine ab.fH Tryz.f105 JJ _ (aP.cell rfl JK Jl (j:=0) rfl rfl (aP.tmp rfl aP.nil)) (fun w' hS=>?_)
   exact ⟨hS.ext,by subst h;rfl⟩
  have h13:op≠13:=by simpa using hc
  refine gS (gR ?_);refine aw bh ?_;refine ai ?_;refine gE ?_
  refine gC (fun hc=>?_) fun hc=>?_
  ·
   have h:op=14:=by simpa using hc
   refine gS (gR ?_)
   refine ab.v (ae.eM rfl rfl rfl rfl (bd122 (c:=[_,_,_,_,_,_,_]) rfl)) ?_
   refine ab.dG rfl rfl rfl rfl Jl 0 rfl rfl rfl rfl ?_
   refine ai ?_;refine gE ?_
   refine ab.fH Tryz.f105 JJ _ (aP.cell rfl JK Jl (j:=0) rfl rfl (aP.tmp rfl aP.nil)) (fun w' hS=>?_)
   exact ⟨hS.ext,by subst h;rfl⟩
  have h14:op≠14:=by simpa using hc
  refine gS (gR ?_);refine aw bh ?_;refine ai ?_;refine gE ?_
  refine gC (fun hc=>?_) fun hc=>?_
  ·
   have h:op=15:=by simpa using hc
   refine gS (gR ?_)
   refine ab.v (ae.eM rfl rfl rfl rfl (bd122 (c:=[_,_,_,_,_,_,_]) rfl)) ?_
   refine ab.dG rfl rfl rfl rfl Jl 0 rfl rfl rfl rfl ?_
   refine ai ?_;refine gE ?_
   refine ab.fH Tryz.f105 JJ _ (aP.cell rfl JK Jl (j:=0) rfl rfl (aP.tmp rfl aP.nil)) (fun w' hS=>?_)
   exact ⟨hS.ext,by subst h;rfl⟩
  have h15:op≠15:=by simpa using hc
  refine gS (gR ?_);refine aw bh ?_;refine ai ?_;refine gE ?_
  refine gC (fun hc=>?_) fun hc=>?_
  ·
   have h:op=16:=by simpa using hc
   refine gS (gR ?_)
   refine ab.v (ae.eM rfl rfl rfl rfl (bd122 (c:=[_,_,_,_,_,_,_]) rfl)) ?_
   refine ab.dG rfl rfl rfl rfl Jl 0 rfl rfl rfl rfl ?_
   refine ai ?_;refine gE ?_
   refine ab.fH Tryz.f105 JJ _ (aP.cell rfl JK Jl (j:=0) rfl rfl (aP.tmp rfl aP.nil)) (fun w' hS=>?_)
   exact ⟨hS.ext,by subst h;rfl⟩
  have h16:op≠16:=by simpa using hc
  refine gS (gR ?_);refine aw bh ?_;refine ai ?_;refine gE ?_
  refine gC (fun hc=>?_) fun hc=>?_
  ·
   have h:op=17:=by simpa using hc
   refine gS (gR ?_)
   refine ab.v (ae.eM rfl rfl rfl rfl (bd122 (c:=[_,_,_,_,_,_,_]) rfl)) ?_
   refine ab.dG rfl rfl rfl rfl Jl 0 rfl rfl rfl rfl ?_
   refine ai ?_;refine gE ?_
   refine ab.fH Tryz.f105 JJ _ (aP.cell rfl JK Jl (j:=0) rfl rfl (aP.tmp rfl aP.nil)) (fun w' hS=>?_)
   exact ⟨hS.ext,by subst h;rfl⟩
  have h17:op≠17:=by simpa using hc
  refine gS (gS (gR ?_));refine aw bh ?_;refine ai ?_;refine gE ?_
  refine gC (fun hc=>?_) fun hc=>?_
  ·
   have h:op=18:=by simpa using hc
   refine gK ?_
   refine ab.cond rfl (fun _=>?_) (fun hc=>by exfalso;simp [h] at hc)
   refine gS (gR ?_)
   refine ab.v (ae.eM rfl rfl rfl rfl (bd122 (c:=[_,_,_,_,_,_,_]) rfl)) ?_
   refine ab.dG rfl rfl rfl rfl Jl 0 rfl rfl rfl rfl ?_
   refine ai ?_;refine gE ?_
   refine ab.fH Tryz.f105 JJ _ (aP.cell rfl JK Jl (j:=0) rfl rfl (aP.tmp rfl aP.nil)) (fun w' hS=>?_)
   exact ⟨hS.ext,by subst h;rfl⟩
  have h18:op≠18:=by simpa using hc
  refine gR ?_;refine aw bh ?_;refine ai ?_;refine gE ?_
  refine gC (fun hc=>?_) fun hc=>?_
  ·
   have h:op=20:=by simpa using hc
   refine gS (gR ?_)
   refine ab.v (ae.eM rfl rfl rfl rfl (bd122 (c:=[_,_,_,_,_,_,_]) rfl)) ?_
   refine ab.dG rfl rfl rfl rfl Jl 0 rfl rfl rfl rfl ?_
   refine ai ?_;refine gE ?_
   refine ab.fH Tryz.f105 JJ _ (aP.cell rfl JK Jl (j:=0) rfl rfl (aP.tmp rfl aP.nil)) (fun w' hS=>?_)
   exact ⟨hS.ext,by subst h;rfl⟩
  have h20:op≠20:=by simpa using hc
  refine gS (gS (gR ?_));refine aw bh ?_;refine ai ?_;refine gE ?_
  refine gC (fun hc=>?_) fun hc=>?_
  ·
   have h:op=19:=by simpa using hc
   refine gK ?_
   refine ab.cond rfl (fun _=>?_) (fun hc=>by exfalso;simp [h] at hc)
   refine gS (gR ?_)
   refine ab.v (ae.eM rfl rfl rfl rfl (bd122 (c:=[_,_,_,_,_,_,_]) rfl)) ?_
   refine ab.dG rfl rfl rfl rfl Jl 0 rfl rfl rfl rfl ?_
   refine ai ?_;refine gE ?_
   refine ab.fH Tryz.f105 JJ _ (aP.cell rfl JK Jl (j:=0) rfl rfl (aP.tmp rfl aP.nil)) (fun w' hS=>?_)
   exact ⟨hS.ext,by subst h;rfl⟩
  have h19:op≠19:=by simpa using hc
  refine gR ?_;refine aw bh ?_;refine ai ?_;refine gE ?_
  refine gC (fun hc=>?_) fun hc=>?_
  ·
   have h:op=21:=by simpa using hc
   refine gS (gR ?_)
   refine ab.v (ae.eM rfl rfl rfl rfl (bd122 (c:=[_,_,_,_,_,_,_]) rfl)) ?_
   refine ab.dG rfl rfl rfl rfl Jl 0 rfl rfl rfl rfl ?_
   refine ai ?_;refine gE ?_
   refine ab.fH Tryz.f105 JJ _ (aP.cell rfl JK Jl (j:=0) rfl rfl (aP.tmp rfl aP.nil)) (fun w' hS=>?_)
   exact ⟨hS.ext,by subst h;rfl⟩
  have h21:op≠21:=by simpa using hc
  refine gK (dQ (gS (gR ?_)))
  refine ab.v (ae.eM rfl rfl rfl rfl (bd122 (c:=[_,_,_,_,_,_,_]) rfl)) ?_
  refine ab.dG rfl rfl rfl rfl Jl 0 rfl rfl rfl rfl ?_
  refine ai ?_;refine gE ?_
  refine ab.fH Tryz.f105 JJ _ (aP.cell rfl JK Jl (j:=0) rfl rfl (aP.tmp rfl aP.nil)) (fun w' hS=>?_)
  exact ⟨hS.ext,by rw [z8 (by omega),vr (by omega)];rfl⟩
theorem bZ (u:Bool) (x at_:Int) (w:World):Cn Tryz.prog 148 [.bool u,.int .i64 x,.int .i64 at_] w (fun v _=>v=.bool (iJ u x at_)):=by
  refine Cn.of func148 rfl rfl ?_
  refine gS (gR ?_);refine ai ?_;refine gE (gS (gR ?_))
  iterate 2 refine ah ?_
  refine eD 8 (fun hc=>?_) fun hc=>?_
  ·
   have hu:u=true:=hc
   subst hu
   refine ah ?_;refine aw oN ?_;refine cz ?_;refine ah ?_
   refine eD 12 (fun hc=>?_) fun hc=>?_
   ·
    have h1:0≤x:=by simpa using hc
    iterate 2 refine ah ?_
    refine aw jl ?_;refine cz ?_;refine ah ?_
    refine eD 17 (fun hc=>?_) fun hc=>?_
    ·
     have h2:x<at_:=by simpa using hc
     iterate 6 refine cy ?_
     refine cz ?_;refine ai ?_;refine gE ?_
     refine gT func148 fun w' hS=>?_
     exact ⟨hS.ext,by simp [iJ,h1,h2,jX]⟩
    have h2:¬x<at_:=by simpa using hc
    refine ah ?_;refine fe bG ?_;refine ah ?_
    refine eD 20 (fun hc=>?_) fun hc=>?_
    ·
     simp at hc
    iterate 2 refine cy ?_
    iterate 2 refine bE ?_
    refine ai ?_;refine gE ?_
    refine gT func148 fun w' hS=>?_
    exact ⟨hS.ext,by simp [iJ,h1,h2,jX]⟩
   have h1:¬0≤x:=by simpa using hc
   iterate 3 refine cy ?_
   refine bE ?_
   iterate 2 refine ah ?_
   refine fe bG ?_;refine ah ?_
   refine eD 20 (fun hc=>?_) fun hc=>?_
   ·
    simp at hc
   iterate 2 refine cy ?_
   iterate 2 refine bE ?_
   refine ai ?_;refine gE ?_
   refine gT func148 fun w' hS=>?_
   exact ⟨hS.ext,by simp [iJ,h1,jX]⟩
  have hu:u=false:=hc
  subst hu
  iterate 2 refine cy ?_
  refine bE ?_;refine ah ?_
  iterate 3 refine cy ?_
  refine bE ?_
  iterate 2 refine ah ?_
  refine fe bG ?_;refine ah ?_
  refine eD 20 (fun hc=>?_) fun hc=>?_
  ·
   refine ah ?_;refine aw bh ?_;refine cz ?_;refine bE ?_;refine ai ?_;refine gE ?_
   refine gT func148 fun w' hS=>?_
   exact ⟨hS.ext,by simp [iJ,jX]⟩
  simp at hc
theorem bR (u:Bool) (x lo hi:Int) (w:World):Cn Tryz.prog 149 [.bool u,.int .i64 x,.int .i64 lo,.int .i64 hi] w (fun v _=>v=.bool (kI u x lo hi)):=by
  refine Cn.of func149 rfl rfl ?_
  refine gS (gR ?_);refine ai ?_;refine gE (gS (gR ?_))
  iterate 2 refine ah ?_
  refine eD 10 (fun hc=>?_) fun hc=>?_
  ·
   have hu:u=true:=hc
   subst hu
   iterate 2 refine ah ?_
   refine aw jl ?_;refine ah ?_
   refine eD 14 (fun hc=>?_) fun hc=>?_
   ·
    have h1:x<lo:=by simpa using hc
    iterate 3 refine cy ?_
    iterate 2 refine cz ?_
    refine ai ?_;refine gE ?_
    refine gT func149 fun w' hS=>?_
    exact ⟨hS.ext,by simp [kI,h1,jX]⟩
   have h1:¬x<lo:=by simpa using hc
   iterate 2 refine ah ?_
   refine aw w6 ?_;refine bE ?_;refine cz ?_;refine ai ?_;refine gE ?_
   refine gT func149 fun w' hS=>?_
   exact ⟨hS.ext,by simp [kI,h1,jX]⟩
  have hu:u=false:=hc
  subst hu
  iterate 8 refine cy ?_
  refine bE ?_;refine ai ?_;refine gE ?_
  refine gT func149 fun w' hS=>?_
  exact ⟨hS.ext,by simp [kI,jX]⟩
set_option maxRecDepth 4000 in
theorem qR (n:NV) (at_ fr:Int) (w:World) (hop:1≤n.op∧n.op≤21) (hX:cF n.op=false) (hY:cm n.op=false) (h3:(n.op==3)=false) (hA:o8 n.op=false) (h17:(n.op==17)=false) (hG:lN n.op=false) (hU:qJ n.op=.agg #[.bool false,.bool false,.bool false,.bool false,.bool false,.bool false,.int .i64 fr]) (hK:okO n.op=true):
    Cn Tryz.prog 102 [n.v,.int .i64 at_] w (fun v _=>v=.int .i64 (aK n at_)):=by
  refine Cn.of Jk rfl rfl ?_
  refine gS (gR ?_)
  refine ab.bx rfl rfl rfl rfl (fun b2=>?_)
  refine ai ?_;refine gE (gS (gR ?_));refine al Jb I9 0 ?_;refine aq Ja 0 ?_
  refine gP rfl rfl rfl rfl rfl call105 (fun w _ hS=>(by have:=gV n.op w;rw [hU,hK] at this;exact this)) ?_
  refine ah ?_
  iterate 2 refine fW ?_
  refine ab.eN rfl rfl rfl (fun _=>JZ _) (fun b5=>?_)
  refine ab.dG rfl rfl rfl rfl Jl 0 rfl rfl rfl rfl ?_
  refine ai ?_;refine gE (gS (gS (gR ?_)));refine ah ?_;refine fe bG ?_;refine gE ?_
  refine ab.cond rfl (fun hc=>by exfalso;simp at hc) (fun _=>?_)
  refine gK (gS (gS (gR ?_)));refine al Jf Jc 0 ?_;refine aq Je 0 ?_;refine al Jb I9 4 ?_;refine aq Ja 1 ?_;refine ah ?_
  refine gP rfl rfl rfl rfl rfl JT (fun w _ hS=>(by exact bZ false n.x at_ w)) ?_
  refine fe bG ?_;refine ah ?_
  refine eD 23 (fun hc=>?_) fun hc=>?_
  ·
   have hb:iJ (cF n.op) n.x at_=false:=by rw [hX];simpa using hc
   iterate 7 refine cy ?_
   refine cz ?_;refine gE (ab.bX rfl (gS (gR ?_)));refine ai ?_;refine gE ?_
   refine gT Jk fun w' hS=>?_
   exact ⟨hS.ext,by rw [show aK n at_=3 from iQ hop hb];rfl⟩
  have hox:iJ (cF n.op) n.x at_=true:=by rw [hX];simpa using hc
  refine al Jf Jc 1 ?_;refine aq Je 0 ?_;refine al Jb I9 5 ?_;refine aq Ja 1 ?_;refine ah ?_
  refine gP rfl rfl rfl rfl rfl JT (fun w _ hS=>(by exact bZ false n.y at_ w)) ?_
  refine fe bG ?_;refine bE ?_;refine gE ?_
  refine gC (fun hc=>?_) fun hc=>?_
  ·
   have hb:iJ (cm n.op) n.y at_=false:=by rw [hY];simpa using hc
   refine gS (gR ?_);refine ai ?_;refine gE ?_
   refine gT Jk fun w' hS=>?_
   exact ⟨hS.ext,by rw [show aK n at_=3 from iP hop hb];rfl⟩
  have hoy:iJ (cm n.op) n.y at_=true:=by rw [hY];simpa using hc
  refine gK (gS (gS (gR ?_)));refine al Jf Jc 2 ?_;refine aq Je 0 ?_;refine ah ?_;refine al Jf Jc 3 ?_;refine aq Je 0 ?_;refine bE ?_;refine ah ?_;refine al Jf Jc 5 ?_;refine aq Je 0 ?_;refine bE ?_;refine fe bG ?_;refine ah ?_;refine al Jb I9 1 ?_
  refine aq Ja 1 ?_;refine aw gO ?_;refine cz ?_;refine ah ?_
  refine eD 48 (fun hc=>?_) fun hc=>?_
  ·
   have hb:n.i≠0:=by simpa using hc
   iterate 8 refine cy ?_
   refine cz ?_;refine ah ?_
   iterate 8 refine cy ?_
   refine cz ?_;refine gE (ab.bX rfl (gS (gR ?_)));refine ai ?_;refine gE ?_
   refine gT Jk fun w' hS=>?_
   exact ⟨hS.ext,by rw [show aK n at_=3 from (aZ hop hox hoy).trans (eA (by simp [iO,bne,h3,h17,hA,hG];omega))];rfl⟩
  have hzi:n.i=0:=by simpa using hc
  refine al Jf Jc 5 ?_;refine aq Je 0 ?_;refine fe bG ?_;refine ah ?_;refine al Jb I9 2 ?_;refine aq Ja 1 ?_;refine aw gO ?_;refine cz ?_;refine bE ?_;refine ah ?_
  refine eD 58 (fun hc=>?_) fun hc=>?_
  ·
   have hb:n.e≠0:=by simpa using hc
   iterate 8 refine cy ?_
   refine cz ?_;refine gE (ab.bX rfl (gS (gR ?_)));refine ai ?_;refine gE ?_
   refine gT Jk fun w' hS=>?_
   exact ⟨hS.ext,by rw [show aK n at_=3 from (aZ hop hox hoy).trans (eA (by simp [iO,bne,h3,h17,hA,hG];omega))];rfl⟩
  have hze:n.e=0:=by simpa using hc
  refine al Jf Jc 4 ?_;refine aq Je 0 ?_;refine fe bG ?_;refine ah ?_;refine al Jb I9 3 ?_;refine aq Ja 1 ?_;refine aw gO ?_;refine cz ?_;refine bE ?_;refine gE ?_
  refine gC (fun hc=>?_) fun hc=>?_
  ·
   have hb:n.g≠0:=by simpa using hc
   refine gS (gR ?_);refine ai ?_;refine gE ?_
   refine gT Jk fun w' hS=>?_
   exact ⟨hS.ext,by rw [show aK n at_=3 from (aZ hop hox hoy).trans (eA (by simp [iO,bne,h3,h17,hA,hG];omega))];rfl⟩
  have hzg:n.g=0:=by simpa using hc
  have hfa:(!iO n.op && n.i !=0||n.op !=17 && n.e !=0||!lN n.op && n.g !=0)=false:=by simp [iO,bne,h3,h17,hA,hG];omega
  refine gK (gS (gR ?_));refine ai ?_;refine gE (gS (gS (gR ?_)));refine ah ?_;refine al Jf Jc 2 ?_;refine aq Je 0 ?_;refine al Jb I9 1 ?_;refine aq Ja 1 ?_
  refine gP rfl rfl rfl rfl rfl Js (fun w _ hS=>(by exact bR false n.i 0 7 w)) ?_
  iterate 2 refine ah ?_
  refine al Jf Jc 3 ?_;refine aq Je 0 ?_;refine al Jb I9 1 ?_;refine aq Ja 1 ?_
  refine gP rfl rfl rfl rfl rfl Js (fun w _ hS=>(by exact bR false n.i 0 3 w)) ?_
  refine bE ?_
  iterate 2 refine ah ?_
  refine al Jf Jc 5 ?_;refine aq Je 0 ?_;refine al Jb I9 1 ?_;refine aq Ja 1 ?_
  refine gP rfl rfl rfl rfl rfl Js (fun w _ hS=>(by exact bR false n.i 0 7 w)) ?_
  refine bE ?_
  iterate 2 refine ah ?_
  refine al Jf Jc 5 ?_;refine aq Je 0 ?_;refine al Jb I9 2 ?_;refine aq Ja 1 ?_
  refine gP rfl rfl rfl rfl rfl Js (fun w _ hS=>(by exact bR false n.e 0 7 w)) ?_
  refine bE ?_
  iterate 2 refine ah ?_
  refine al Jf Jc 4 ?_;refine aq Je 0 ?_;refine al Jb I9 3 ?_;refine aq Ja 1 ?_
  refine gP rfl rfl rfl rfl rfl Js (fun w _ hS=>(by exact bR false n.g 1 15 w)) ?_
  refine bE ?_;refine gE (ab.gj rfl (gK (gS (gR ?_))));refine ai ?_;refine gE ?_
  refine gT Jk fun w' hS=>?_
  exact ⟨hS.ext,by rw [show aK n at_=0 from (aZ hop hox hoy).trans (kC hfa (by simp [h3,h17,hA,hG]))];rfl⟩
set_option maxRecDepth 4000 in
theorem wC (n:NV) (at_ fr:Int) (w:World) (hop:1≤n.op∧n.op≤21) (hX:cF n.op=false) (hY:cm n.op=false) (h3:(n.op==3)=true) (hA:o8 n.op=false) (h17:(n.op==17)=false) (hG:lN n.op=false) (hU:qJ n.op=.agg #[.bool false,.bool false,.bool true,.bool false,.bool false,.bool false,.int .i64 fr]) (hK:okO n.op=true):
    Cn Tryz.prog 102 [n.v,.int .i64 at_] w (fun v _=>v=.int .i64 (aK n at_)):=by
  refine Cn.of Jk rfl rfl ?_
  refine gS (gR ?_)
  refine ab.bx rfl rfl rfl rfl (fun b2=>?_)
  refine ai ?_;refine gE (gS (gR ?_));refine al Jb I9 0 ?_;refine aq Ja 0 ?_
  refine gP rfl rfl rfl rfl rfl call105 (fun w _ hS=>(by have:=gV n.op w;rw [hU,hK] at this;exact this)) ?_
  refine ah ?_
  iterate 2 refine fW ?_
  refine ab.eN rfl rfl rfl (fun _=>JZ _) (fun b5=>?_)
  refine ab.dG rfl rfl rfl rfl Jl 0 rfl rfl rfl rfl ?_
  refine ai ?_;refine gE (gS (gS (gR ?_)));refine ah ?_;refine fe bG ?_;refine gE ?_
  refine ab.cond rfl (fun hc=>by exfalso;simp at hc) (fun _=>?_)
  refine gK (gS (gS (gR ?_)));refine al Jf Jc 0 ?_;refine aq Je 0 ?_;refine al Jb I9 4 ?_;refine aq Ja 1 ?_;refine ah ?_
  refine gP rfl rfl rfl rfl rfl JT (fun w _ hS=>(by exact bZ false n.x at_ w)) ?_
  refine fe bG ?_;refine ah ?_
  refine eD 23 (fun hc=>?_) fun hc=>?_
  ·
   have hb:iJ (cF n.op) n.x at_=false:=by rw [hX];simpa using hc
   iterate 7 refine cy ?_
   refine cz ?_;refine gE (ab.bX rfl (gS (gR ?_)));refine ai ?_;refine gE ?_
   refine gT Jk fun w' hS=>?_
   exact ⟨hS.ext,by rw [show aK n at_=3 from iQ hop hb];rfl⟩
  have hox:iJ (cF n.op) n.x at_=true:=by rw [hX];simpa using hc
  refine al Jf Jc 1 ?_;refine aq Je 0 ?_;refine al Jb I9 5 ?_;refine aq Ja 1 ?_;refine ah ?_
  refine gP rfl rfl rfl rfl rfl JT (fun w _ hS=>(by exact bZ false n.y at_ w)) ?_
  refine fe bG ?_;refine bE ?_;refine gE ?_
  refine gC (fun hc=>?_) fun hc=>?_
  ·
   have hb:iJ (cm n.op) n.y at_=false:=by rw [hY];simpa using hc
   refine gS (gR ?_);refine ai ?_;refine gE ?_
   refine gT Jk fun w' hS=>?_
   exact ⟨hS.ext,by rw [show aK n at_=3 from iP hop hb];rfl⟩
  have hoy:iJ (cm n.op) n.y at_=true:=by rw [hY];simpa using hc
  refine gK (gS (gS (gR ?_)));refine al Jf Jc 2 ?_;refine aq Je 0 ?_;refine ah ?_
  iterate 2 refine cy ?_
  refine cz ?_;refine ah ?_
  iterate 2 refine cy ?_
  refine cz ?_;refine fe bG ?_;refine ah ?_
  iterate 3 refine cy ?_
  refine bE ?_;refine ah ?_;refine al Jf Jc 5 ?_;refine aq Je 0 ?_;refine fe bG ?_;refine ah ?_;refine al Jb I9 2 ?_;refine aq Ja 1 ?_;refine aw gO ?_;refine cz ?_;refine bE ?_;refine ah ?_
  refine eD 58 (fun hc=>?_) fun hc=>?_
  ·
   have hb:n.e≠0:=by simpa using hc
   iterate 8 refine cy ?_
   refine cz ?_;refine gE (ab.bX rfl (gS (gR ?_)));refine ai ?_;refine gE ?_
   refine gT Jk fun w' hS=>?_
   exact ⟨hS.ext,by rw [show aK n at_=3 from (aZ hop hox hoy).trans (eA (by simp [iO,bne,h3,h17,hA,hG];omega))];rfl⟩
  have hze:n.e=0:=by simpa using hc
  refine al Jf Jc 4 ?_;refine aq Je 0 ?_;refine fe bG ?_;refine ah ?_;refine al Jb I9 3 ?_;refine aq Ja 1 ?_;refine aw gO ?_;refine cz ?_;refine bE ?_;refine gE ?_
  refine gC (fun hc=>?_) fun hc=>?_
  ·
   have hb:n.g≠0:=by simpa using hc
   refine gS (gR ?_);refine ai ?_;refine gE ?_
   refine gT Jk fun w' hS=>?_
   exact ⟨hS.ext,by rw [show aK n at_=3 from (aZ hop hox hoy).trans (eA (by simp [iO,bne,h3,h17,hA,hG];omega))];rfl⟩
  have hzg:n.g=0:=by simpa using hc
  have hfa:(!iO n.op && n.i !=0||n.op !=17 && n.e !=0||!lN n.op && n.g !=0)=false:=by simp [iO,bne,h3,h17,hA,hG];omega
  refine gK (gS (gR ?_));refine ai ?_;refine gE (gS (gS (gR ?_)));refine ah ?_;refine al Jf Jc 2 ?_;refine aq Je 0 ?_;refine al Jb I9 1 ?_;refine aq Ja 1 ?_
  refine gP rfl rfl rfl rfl rfl Js (fun w _ hS=>(by exact bR true n.i 0 7 w)) ?_
  refine ah ?_
  refine eD 74 (fun hc=>?_) fun hc=>?_
  ·
   have hb:n.i<0∨7<n.i:=by simpa [kI] using hc
   iterate 6 refine cy ?_
   refine cz ?_;refine ah ?_
   iterate 6 refine cy ?_
   refine cz ?_;refine ah ?_
   iterate 6 refine cy ?_
   refine cz ?_;refine ah ?_
   iterate 6 refine cy ?_
   refine cz ?_;refine gE (ab.bX rfl (gS (gR ?_)));refine ai ?_;refine gE ?_
   refine gT Jk fun w' hS=>?_
   exact ⟨hS.ext,by rw [show aK n at_=2 from (aZ hop hox hoy).trans (mh hfa (by simp [h3,h17,hA,hG];omega))];rfl⟩
  have hr3:0≤n.i∧n.i≤7:=by simpa [kI] using hc
  refine ah ?_;refine al Jf Jc 3 ?_;refine aq Je 0 ?_;refine al Jb I9 1 ?_;refine aq Ja 1 ?_
  refine gP rfl rfl rfl rfl rfl Js (fun w _ hS=>(by exact bR false n.i 0 3 w)) ?_
  refine bE ?_
  iterate 2 refine ah ?_
  refine al Jf Jc 5 ?_;refine aq Je 0 ?_;refine al Jb I9 1 ?_;refine aq Ja 1 ?_
  refine gP rfl rfl rfl rfl rfl Js (fun w _ hS=>(by exact bR false n.i 0 7 w)) ?_
  refine bE ?_
  iterate 2 refine ah ?_
  refine al Jf Jc 5 ?_;refine aq Je 0 ?_;refine al Jb I9 2 ?_;refine aq Ja 1 ?_
  refine gP rfl rfl rfl rfl rfl Js (fun w _ hS=>(by exact bR false n.e 0 7 w)) ?_
  refine bE ?_
  iterate 2 refine ah ?_
  refine al Jf Jc 4 ?_;refine aq Je 0 ?_;refine al Jb I9 3 ?_;refine aq Ja 1 ?_
  refine gP rfl rfl rfl rfl rfl Js (fun w _ hS=>(by exact bR false n.g 1 15 w)) ?_
  refine bE ?_;refine gE (ab.gj rfl (gK (gS (gR ?_))));refine ai ?_;refine gE ?_
  refine gT Jk fun w' hS=>?_
  exact ⟨hS.ext,by rw [show aK n at_=0 from (aZ hop hox hoy).trans (kC hfa (by simp [h3,h17,hA,hG];omega))];rfl⟩
set_option maxRecDepth 4000 in
theorem pF (n:NV) (at_ fr:Int) (w:World) (hop:1≤n.op∧n.op≤21) (hX:cF n.op=true) (hY:cm n.op=false) (h3:(n.op==3)=false) (hA:o8 n.op=false) (h17:(n.op==17)=false) (hG:lN n.op=false) (hU:qJ n.op=.agg #[.bool true,.bool false,.bool false,.bool false,.bool false,.bool false,.int .i64 fr]) (hK:okO n.op=true):
    Cn Tryz.prog 102 [n.v,.int .i64 at_] w (fun v _=>v=.int .i64 (aK n at_)):=by
  refine Cn.of Jk rfl rfl ?_
  refine gS (gR ?_)
  refine ab.bx rfl rfl rfl rfl (fun b2=>?_)
  refine ai ?_;refine gE (gS (gR ?_));refine al Jb I9 0 ?_;refine aq Ja 0 ?_
  refine gP rfl rfl rfl rfl rfl call105 (fun w _ hS=>(by have:=gV n.op w;rw [hU,hK] at this;exact this)) ?_
  refine ah ?_
  iterate 2 refine fW ?_
  refine ab.eN rfl rfl rfl (fun _=>JZ _) (fun b5=>?_)
  refine ab.dG rfl rfl rfl rfl Jl 0 rfl rfl rfl rfl ?_
  refine ai ?_;refine gE (gS (gS (gR ?_)));refine ah ?_;refine fe bG ?_;refine gE ?_
  refine ab.cond rfl (fun hc=>by exfalso;simp at hc) (fun _=>?_)
  refine gK (gS (gS (gR ?_)));refine al Jf Jc 0 ?_;refine aq Je 0 ?_;refine al Jb I9 4 ?_;refine aq Ja 1 ?_;refine ah ?_
  refine gP rfl rfl rfl rfl rfl JT (fun w _ hS=>(by exact bZ true n.x at_ w)) ?_
  refine fe bG ?_;refine ah ?_
  refine eD 23 (fun hc=>?_) fun hc=>?_
  ·
   have hb:iJ (cF n.op) n.x at_=false:=by rw [hX];simpa using hc
   iterate 7 refine cy ?_
   refine cz ?_;refine gE (ab.bX rfl (gS (gR ?_)));refine ai ?_;refine gE ?_
   refine gT Jk fun w' hS=>?_
   exact ⟨hS.ext,by rw [show aK n at_=3 from iQ hop hb];rfl⟩
  have hox:iJ (cF n.op) n.x at_=true:=by rw [hX];simpa using hc
  refine al Jf Jc 1 ?_;refine aq Je 0 ?_;refine al Jb I9 5 ?_;refine aq Ja 1 ?_;refine ah ?_
  refine gP rfl rfl rfl rfl rfl JT (fun w _ hS=>(by exact bZ false n.y at_ w)) ?_
  refine fe bG ?_;refine bE ?_;refine gE ?_
  refine gC (fun hc=>?_) fun hc=>?_
  ·
   have hb:iJ (cm n.op) n.y at_=false:=by rw [hY];simpa using hc
   refine gS (gR ?_);refine ai ?_;refine gE ?_
   refine gT Jk fun w' hS=>?_
   exact ⟨hS.ext,by rw [show aK n at_=3 from iP hop hb];rfl⟩
  have hoy:iJ (cm n.op) n.y at_=true:=by rw [hY];simpa using hc
  refine gK (gS (gS (gR ?_)));refine al Jf Jc 2 ?_;refine aq Je 0 ?_;refine ah ?_;refine al Jf Jc 3 ?_;refine aq Je 0 ?_;refine bE ?_;refine ah ?_;refine al Jf Jc 5 ?_;refine aq Je 0 ?_;refine bE ?_;refine fe bG ?_;refine ah ?_;refine al Jb I9 1 ?_
  refine aq Ja 1 ?_;refine aw gO ?_;refine cz ?_;refine ah ?_
  refine eD 48 (fun hc=>?_) fun hc=>?_
  ·
   have hb:n.i≠0:=by simpa using hc
   iterate 8 refine cy ?_
   refine cz ?_;refine ah ?_
   iterate 8 refine cy ?_
   refine cz ?_;refine gE (ab.bX rfl (gS (gR ?_)));refine ai ?_;refine gE ?_
   refine gT Jk fun w' hS=>?_
   exact ⟨hS.ext,by rw [show aK n at_=3 from (aZ hop hox hoy).trans (eA (by simp [iO,bne,h3,h17,hA,hG];omega))];rfl⟩
  have hzi:n.i=0:=by simpa using hc
  refine al Jf Jc 5 ?_;refine aq Je 0 ?_;refine fe bG ?_;refine ah ?_;refine al Jb I9 2 ?_;refine aq Ja 1 ?_;refine aw gO ?_;refine cz ?_;refine bE ?_;refine ah ?_
  refine eD 58 (fun hc=>?_) fun hc=>?_
  ·
   have hb:n.e≠0:=by simpa using hc
   iterate 8 refine cy ?_
   refine cz ?_;refine gE (ab.bX rfl (gS (gR ?_)));refine ai ?_;refine gE ?_
   refine gT Jk fun w' hS=>?_
   exact ⟨hS.ext,by rw [show aK n at_=3 from (aZ hop hox hoy).trans (eA (by simp [iO,bne,h3,h17,hA,hG];omega))];rfl⟩
  have hze:n.e=0:=by simpa using hc
  refine al Jf Jc 4 ?_;refine aq Je 0 ?_;refine fe bG ?_;refine ah ?_;refine al Jb I9 3 ?_;refine aq Ja 1 ?_;refine aw gO ?_;refine cz ?_;refine bE ?_;refine gE ?_
  refine gC (fun hc=>?_) fun hc=>?_
  ·
   have hb:n.g≠0:=by simpa using hc
   refine gS (gR ?_);refine ai ?_;refine gE ?_
   refine gT Jk fun w' hS=>?_
   exact ⟨hS.ext,by rw [show aK n at_=3 from (aZ hop hox hoy).trans (eA (by simp [iO,bne,h3,h17,hA,hG];omega))];rfl⟩
  have hzg:n.g=0:=by simpa using hc
  have hfa:(!iO n.op && n.i !=0||n.op !=17 && n.e !=0||!lN n.op && n.g !=0)=false:=by simp [iO,bne,h3,h17,hA,hG];omega
  refine gK (gS (gR ?_));refine ai ?_;refine gE (gS (gS (gR ?_)));refine ah ?_;refine al Jf Jc 2 ?_;refine aq Je 0 ?_;refine al Jb I9 1 ?_;refine aq Ja 1 ?_
  refine gP rfl rfl rfl rfl rfl Js (fun w _ hS=>(by exact bR false n.i 0 7 w)) ?_
  iterate 2 refine ah ?_
  refine al Jf Jc 3 ?_;refine aq Je 0 ?_;refine al Jb I9 1 ?_;refine aq Ja 1 ?_
  refine gP rfl rfl rfl rfl rfl Js (fun w _ hS=>(by exact bR false n.i 0 3 w)) ?_
  refine bE ?_
  iterate 2 refine ah ?_
  refine al Jf Jc 5 ?_;refine aq Je 0 ?_;refine al Jb I9 1 ?_;refine aq Ja 1 ?_
  refine gP rfl rfl rfl rfl rfl Js (fun w _ hS=>(by exact bR false n.i 0 7 w)) ?_
  refine bE ?_
  iterate 2 refine ah ?_
  refine al Jf Jc 5 ?_;refine aq Je 0 ?_;refine al Jb I9 2 ?_;refine aq Ja 1 ?_
  refine gP rfl rfl rfl rfl rfl Js (fun w _ hS=>(by exact bR false n.e 0 7 w)) ?_
  refine bE ?_
  iterate 2 refine ah ?_
  refine al Jf Jc 4 ?_;refine aq Je 0 ?_;refine al Jb I9 3 ?_;refine aq Ja 1 ?_
  refine gP rfl rfl rfl rfl rfl Js (fun w _ hS=>(by exact bR false n.g 1 15 w)) ?_
  refine bE ?_;refine gE (ab.gj rfl (gK (gS (gR ?_))));refine ai ?_;refine gE ?_
  refine gT Jk fun w' hS=>?_
  exact ⟨hS.ext,by rw [show aK n at_=0 from (aZ hop hox hoy).trans (kC hfa (by simp [h3,h17,hA,hG]))];rfl⟩
set_option maxRecDepth 4000 in
theorem i9 (n:NV) (at_ fr:Int) (w:World) (hop:1≤n.op∧n.op≤21) (hX:cF n.op=true) (hY:cm n.op=true) (h3:(n.op==3)=false) (hA:o8 n.op=false) (h17:(n.op==17)=false) (hG:lN n.op=false) (hU:qJ n.op=.agg #[.bool true,.bool true,.bool false,.bool false,.bool false,.bool false,.int .i64 fr]) (hK:okO n.op=true):
    Cn Tryz.prog 102 [n.v,.int .i64 at_] w (fun v _=>v=.int .i64 (aK n at_)):=by
  refine Cn.of Jk rfl rfl ?_
  refine gS (gR ?_)
  refine ab.bx rfl rfl rfl rfl (fun b2=>?_)
  refine ai ?_;refine gE (gS (gR ?_));refine al Jb I9 0 ?_;refine aq Ja 0 ?_
  refine gP rfl rfl rfl rfl rfl call105 (fun w _ hS=>(by have:=gV n.op w;rw [hU,hK] at this;exact this)) ?_
  refine ah ?_
  iterate 2 refine fW ?_
  refine ab.eN rfl rfl rfl (fun _=>JZ _) (fun b5=>?_)
  refine ab.dG rfl rfl rfl rfl Jl 0 rfl rfl rfl rfl ?_
  refine ai ?_;refine gE (gS (gS (gR ?_)));refine ah ?_;refine fe bG ?_;refine gE ?_
  refine ab.cond rfl (fun hc=>by exfalso;simp at hc) (fun _=>?_)
  refine gK (gS (gS (gR ?_)));refine al Jf Jc 0 ?_;refine aq Je 0 ?_;refine al Jb I9 4 ?_;refine aq Ja 1 ?_;refine ah ?_
  refine gP rfl rfl rfl rfl rfl JT (fun w _ hS=>(by exact bZ true n.x at_ w)) ?_
  refine fe bG ?_;refine ah ?_
  refine eD 23 (fun hc=>?_) fun hc=>?_
  ·
   have hb:iJ (cF n.op) n.x at_=false:=by rw [hX];simpa using hc
   iterate 7 refine cy ?_
   refine cz ?_;refine gE (ab.bX rfl (gS (gR ?_)));refine ai ?_;refine gE ?_
   refine gT Jk fun w' hS=>?_
   exact ⟨hS.ext,by rw [show aK n at_=3 from iQ hop hb];rfl⟩
  have hox:iJ (cF n.op) n.x at_=true:=by rw [hX];simpa using hc
  refine al Jf Jc 1 ?_;refine aq Je 0 ?_;refine al Jb I9 5 ?_;refine aq Ja 1 ?_;refine ah ?_
  refine gP rfl rfl rfl rfl rfl JT (fun w _ hS=>(by exact bZ true n.y at_ w)) ?_
  refine fe bG ?_;refine bE ?_;refine gE ?_
  refine gC (fun hc=>?_) fun hc=>?_
  ·
   have hb:iJ (cm n.op) n.y at_=false:=by rw [hY];simpa using hc
   refine gS (gR ?_);refine ai ?_;refine gE ?_
   refine gT Jk fun w' hS=>?_
   exact ⟨hS.ext,by rw [show aK n at_=3 from iP hop hb];rfl⟩
  have hoy:iJ (cm n.op) n.y at_=true:=by rw [hY];simpa using hc
  refine gK (gS (gS (gR ?_)));refine al Jf Jc 2 ?_;refine aq Je 0 ?_;refine ah ?_;refine al Jf Jc 3 ?_;refine aq Je 0 ?_;refine bE ?_;refine ah ?_;refine al Jf Jc 5 ?_;refine aq Je 0 ?_;refine bE ?_;refine fe bG ?_;refine ah ?_;refine al Jb I9 1 ?_
  refine aq Ja 1 ?_;refine aw gO ?_;refine cz ?_;refine ah ?_
  refine eD 48 (fun hc=>?_) fun hc=>?_
  ·
   have hb:n.i≠0:=by simpa using hc
   iterate 8 refine cy ?_
   refine cz ?_;refine ah ?_
   iterate 8 refine cy ?_
   refine cz ?_;refine gE (ab.bX rfl (gS (gR ?_)));refine ai ?_;refine gE ?_
   refine gT Jk fun w' hS=>?_
   exact ⟨hS.ext,by rw [show aK n at_=3 from (aZ hop hox hoy).trans (eA (by simp [iO,bne,h3,h17,hA,hG];omega))];rfl⟩
  have hzi:n.i=0:=by simpa using hc
  refine al Jf Jc 5 ?_;refine aq Je 0 ?_;refine fe bG ?_;refine ah ?_;refine al Jb I9 2 ?_;refine aq Ja 1 ?_;refine aw gO ?_;refine cz ?_;refine bE ?_;refine ah ?_
  refine eD 58 (fun hc=>?_) fun hc=>?_
  ·
   have hb:n.e≠0:=by simpa using hc
   iterate 8 refine cy ?_
   refine cz ?_;refine gE (ab.bX rfl (gS (gR ?_)));refine ai ?_;refine gE ?_
   refine gT Jk fun w' hS=>?_
   exact ⟨hS.ext,by rw [show aK n at_=3 from (aZ hop hox hoy).trans (eA (by simp [iO,bne,h3,h17,hA,hG];omega))];rfl⟩
  have hze:n.e=0:=by simpa using hc
  refine al Jf Jc 4 ?_;refine aq Je 0 ?_;refine fe bG ?_;refine ah ?_;refine al Jb I9 3 ?_;refine aq Ja 1 ?_;refine aw gO ?_;refine cz ?_;refine bE ?_;refine gE ?_
  refine gC (fun hc=>?_) fun hc=>?_
  ·
   have hb:n.g≠0:=by simpa using hc
   refine gS (gR ?_);refine ai ?_;refine gE ?_
   refine gT Jk fun w' hS=>?_
   exact ⟨hS.ext,by rw [show aK n at_=3 from (aZ hop hox hoy).trans (eA (by simp [iO,bne,h3,h17,hA,hG];omega))];rfl⟩
  have hzg:n.g=0:=by simpa using hc
  have hfa:(!iO n.op && n.i !=0||n.op !=17 && n.e !=0||!lN n.op && n.g !=0)=false:=by simp [iO,bne,h3,h17,hA,hG];omega
  refine gK (gS (gR ?_));refine ai ?_;refine gE (gS (gS (gR ?_)));refine ah ?_;refine al Jf Jc 2 ?_;refine aq Je 0 ?_;refine al Jb I9 1 ?_;refine aq Ja 1 ?_
  refine gP rfl rfl rfl rfl rfl Js (fun w _ hS=>(by exact bR false n.i 0 7 w)) ?_
  iterate 2 refine ah ?_
  refine al Jf Jc 3 ?_;refine aq Je 0 ?_;refine al Jb I9 1 ?_;refine aq Ja 1 ?_
  refine gP rfl rfl rfl rfl rfl Js (fun w _ hS=>(by exact bR false n.i 0 3 w)) ?_
  refine bE ?_
  iterate 2 refine ah ?_
  refine al Jf Jc 5 ?_;refine aq Je 0 ?_;refine al Jb I9 1 ?_;refine aq Ja 1 ?_
  refine gP rfl rfl rfl rfl rfl Js (fun w _ hS=>(by exact bR false n.i 0 7 w)) ?_
  refine bE ?_
  iterate 2 refine ah ?_
  refine al Jf Jc 5 ?_;refine aq Je 0 ?_;refine al Jb I9 2 ?_;refine aq Ja 1 ?_
  refine gP rfl rfl rfl rfl rfl Js (fun w _ hS=>(by exact bR false n.e 0 7 w)) ?_
  refine bE ?_
  iterate 2 refine ah ?_
  refine al Jf Jc 4 ?_;refine aq Je 0 ?_;refine al Jb I9 3 ?_;refine aq Ja 1 ?_
  refine gP rfl rfl rfl rfl rfl Js (fun w _ hS=>(by exact bR false n.g 1 15 w)) ?_
  refine bE ?_;refine gE (ab.gj rfl (gK (gS (gR ?_))));refine ai ?_;refine gE ?_
  refine gT Jk fun w' hS=>?_
  exact ⟨hS.ext,by rw [show aK n at_=0 from (aZ hop hox hoy).trans (kC hfa (by simp [h3,h17,hA,hG]))];rfl⟩
set_option maxRecDepth 4000 in
theorem nN (n:NV) (at_ fr:Int) (w:World) (hop:1≤n.op∧n.op≤21) (hX:cF n.op=true) (hY:cm n.op=false) (h3:(n.op==3)=false) (hA:o8 n.op=true) (h17:(n.op==17)=false) (hG:lN n.op=false) (hU:qJ n.op=.agg #[.bool true,.bool false,.bool false,.bool true,.bool false,.bool false,.int .i64 fr]) (hK:okO n.op=true):
    Cn Tryz.prog 102 [n.v,.int .i64 at_] w (fun v _=>v=.int .i64 (aK n at_)):=by
  refine Cn.of Jk rfl rfl ?_
  refine gS (gR ?_)
  refine ab.bx rfl rfl rfl rfl (fun b2=>?_)
  refine ai ?_;refine gE (gS (gR ?_));refine al Jb I9 0 ?_;refine aq Ja 0 ?_
  refine gP rfl rfl rfl rfl rfl call105 (fun w _ hS=>(by have:=gV n.op w;rw [hU,hK] at this;exact this)) ?_
  refine ah ?_
  iterate 2 refine fW ?_
  refine ab.eN rfl rfl rfl (fun _=>JZ _) (fun b5=>?_)
  refine ab.dG rfl rfl rfl rfl Jl 0 rfl rfl rfl rfl ?_
  refine ai ?_;refine gE (gS (gS (gR ?_)));refine ah ?_;refine fe bG ?_;refine gE ?_
  refine ab.cond rfl (fun hc=>by exfalso;simp at hc) (fun _=>?_)
  refine gK (gS (gS (gR ?_)));refine al Jf Jc 0 ?_;refine aq Je 0 ?_;refine al Jb I9 4 ?_;refine aq Ja 1 ?_;refine ah ?_
  refine gP rfl rfl rfl rfl rfl JT (fun w _ hS=>(by exact bZ true n.x at_ w)) ?_
  refine fe bG ?_;refine ah ?_
  refine eD 23 (fun hc=>?_) fun hc=>?_
  ·
   have hb:iJ (cF n.op) n.x at_=false:=by rw [hX];simpa using hc
   iterate 7 refine cy ?_
   refine cz ?_;refine gE (ab.bX rfl (gS (gR ?_)));refine ai ?_;refine gE ?_
   refine gT Jk fun w' hS=>?_
   exact ⟨hS.ext,by rw [show aK n at_=3 from iQ hop hb];rfl⟩
  have hox:iJ (cF n.op) n.x at_=true:=by rw [hX];simpa using hc
  refine al Jf Jc 1 ?_;refine aq Je 0 ?_;refine al Jb I9 5 ?_;refine aq Ja 1 ?_;refine ah ?_
  refine gP rfl rfl rfl rfl rfl JT (fun w _ hS=>(by exact bZ false n.y at_ w)) ?_
  refine fe bG ?_;refine bE ?_;refine gE ?_
  refine gC (fun hc=>?_) fun hc=>?_
  ·
   have hb:iJ (cm n.op) n.y at_=false:=by rw [hY];simpa using hc
   refine gS (gR ?_);refine ai ?_;refine gE ?_
   refine gT Jk fun w' hS=>?_
   exact ⟨hS.ext,by rw [show aK n at_=3 from iP hop hb];rfl⟩
  have hoy:iJ (cm n.op) n.y at_=true:=by rw [hY];simpa using hc
  refine gK (gS (gS (gR ?_)));refine al Jf Jc 2 ?_;refine aq Je 0 ?_;refine ah ?_;refine al Jf Jc 3 ?_;refine aq Je 0 ?_;refine bE ?_;refine ah ?_
  iterate 2 refine cy ?_
  refine cz ?_;refine fe bG ?_;refine ah ?_
  iterate 3 refine cy ?_
  refine bE ?_;refine ah ?_;refine al Jf Jc 5 ?_;refine aq Je 0 ?_;refine fe bG ?_;refine ah ?_;refine al Jb I9 2 ?_;refine aq Ja 1 ?_;refine aw gO ?_;refine cz ?_;refine bE ?_;refine ah ?_
  refine eD 58 (fun hc=>?_) fun hc=>?_
  ·
   have hb:n.e≠0:=by simpa using hc
   iterate 8 refine cy ?_
   refine cz ?_;refine gE (ab.bX rfl (gS (gR ?_)));refine ai ?_;refine gE ?_
   refine gT Jk fun w' hS=>?_
   exact ⟨hS.ext,by rw [show aK n at_=3 from (aZ hop hox hoy).trans (eA (by simp [iO,bne,h3,h17,hA,hG];omega))];rfl⟩
  have hze:n.e=0:=by simpa using hc
  refine al Jf Jc 4 ?_;refine aq Je 0 ?_;refine fe bG ?_;refine ah ?_;refine al Jb I9 3 ?_;refine aq Ja 1 ?_;refine aw gO ?_;refine cz ?_;refine bE ?_;refine gE ?_
  refine gC (fun hc=>?_) fun hc=>?_
  ·
   have hb:n.g≠0:=by simpa using hc
   refine gS (gR ?_);refine ai ?_;refine gE ?_
   refine gT Jk fun w' hS=>?_
   exact ⟨hS.ext,by rw [show aK n at_=3 from (aZ hop hox hoy).trans (eA (by simp [iO,bne,h3,h17,hA,hG];omega))];rfl⟩
  have hzg:n.g=0:=by simpa using hc
  have hfa:(!iO n.op && n.i !=0||n.op !=17 && n.e !=0||!lN n.op && n.g !=0)=false:=by simp [iO,bne,h3,h17,hA,hG];omega
  refine gK (gS (gR ?_));refine ai ?_;refine gE (gS (gS (gR ?_)));refine ah ?_;refine al Jf Jc 2 ?_;refine aq Je 0 ?_;refine al Jb I9 1 ?_;refine aq Ja 1 ?_
  refine gP rfl rfl rfl rfl rfl Js (fun w _ hS=>(by exact bR false n.i 0 7 w)) ?_
  iterate 2 refine ah ?_
  refine al Jf Jc 3 ?_;refine aq Je 0 ?_;refine al Jb I9 1 ?_;refine aq Ja 1 ?_
  refine gP rfl rfl rfl rfl rfl Js (fun w _ hS=>(by exact bR true n.i 0 3 w)) ?_
  refine bE ?_;refine ah ?_
  refine eD 82 (fun hc=>?_) fun hc=>?_
  ·
   have hb:n.i<0∨3<n.i:=by simpa [kI] using hc
   iterate 6 refine cy ?_
   refine cz ?_;refine ah ?_
   iterate 6 refine cy ?_
   refine cz ?_;refine ah ?_
   iterate 6 refine cy ?_
   refine cz ?_;refine gE (ab.bX rfl (gS (gR ?_)));refine ai ?_;refine gE ?_
   refine gT Jk fun w' hS=>?_
   exact ⟨hS.ext,by rw [show aK n at_=2 from (aZ hop hox hoy).trans (mh hfa (by simp [h3,h17,hA,hG];omega))];rfl⟩
  have hrA:0≤n.i∧n.i≤3:=by simpa [kI] using hc
  refine ah ?_;refine al Jf Jc 5 ?_;refine aq Je 0 ?_;refine al Jb I9 1 ?_;refine aq Ja 1 ?_
  refine gP rfl rfl rfl rfl rfl Js (fun w _ hS=>(by exact bR false n.i 0 7 w)) ?_
  refine bE ?_
  iterate 2 refine ah ?_
  refine al Jf Jc 5 ?_;refine aq Je 0 ?_;refine al Jb I9 2 ?_;refine aq Ja 1 ?_
  refine gP rfl rfl rfl rfl rfl Js (fun w _ hS=>(by exact bR false n.e 0 7 w)) ?_
  refine bE ?_
  iterate 2 refine ah ?_
  refine al Jf Jc 4 ?_;refine aq Je 0 ?_;refine al Jb I9 3 ?_;refine aq Ja 1 ?_
  refine gP rfl rfl rfl rfl rfl Js (fun w _ hS=>(by exact bR false n.g 1 15 w)) ?_
  refine bE ?_;refine gE (ab.gj rfl (gK (gS (gR ?_))));refine ai ?_;refine gE ?_
  refine gT Jk fun w' hS=>?_
  exact ⟨hS.ext,by rw [show aK n at_=0 from (aZ hop hox hoy).trans (kC hfa (by simp [h3,h17,hA,hG];omega))];rfl⟩
set_option maxRecDepth 4000 in
theorem sX (n:NV) (at_ fr:Int) (w:World) (hop:1≤n.op∧n.op≤21) (hX:cF n.op=true) (hY:cm n.op=false) (h3:(n.op==3)=false) (hA:o8 n.op=false) (h17:(n.op==17)=false) (hG:lN n.op=true) (hU:qJ n.op=.agg #[.bool true,.bool false,.bool false,.bool false,.bool true,.bool false,.int .i64 fr]) (hK:okO n.op=true):
    Cn Tryz.prog 102 [n.v,.int .i64 at_] w (fun v _=>v=.int .i64 (aK n at_)):=by
  refine Cn.of Jk rfl rfl ?_
  refine gS (gR ?_)
  refine ab.bx rfl rfl rfl rfl (fun b2=>?_)
  refine ai ?_;refine gE (gS (gR ?_));refine al Jb I9 0 ?_;refine aq Ja 0 ?_
  refine gP rfl rfl rfl rfl rfl call105 (fun w _ hS=>(by have:=gV n.op w;rw [hU,hK] at this;exact this)) ?_
  refine ah ?_
  iterate 2 refine fW ?_
  refine ab.eN rfl rfl rfl (fun _=>JZ _) (fun b5=>?_)
  refine ab.dG rfl rfl rfl rfl Jl 0 rfl rfl rfl rfl ?_
  refine ai ?_;refine gE (gS (gS (gR ?_)));refine ah ?_;refine fe bG ?_;refine gE ?_
  refine ab.cond rfl (fun hc=>by exfalso;simp at hc) (fun _=>?_)
  refine gK (gS (gS (gR ?_)));refine al Jf Jc 0 ?_;refine aq Je 0 ?_;refine al Jb I9 4 ?_;refine aq Ja 1 ?_;refine ah ?_
  refine gP rfl rfl rfl rfl rfl JT (fun w _ hS=>(by exact bZ true n.x at_ w)) ?_
  refine fe bG ?_;refine ah ?_
  refine eD 23 (fun hc=>?_) fun hc=>?_
  ·
   have hb:iJ (cF n.op) n.x at_=false:=by rw [hX];simpa using hc
   iterate 7 refine cy ?_
   refine cz ?_;refine gE (ab.bX rfl (gS (gR ?_)));refine ai ?_;refine gE ?_
   refine gT Jk fun w' hS=>?_
   exact ⟨hS.ext,by rw [show aK n at_=3 from iQ hop hb];rfl⟩
  have hox:iJ (cF n.op) n.x at_=true:=by rw [hX];simpa using hc
  refine al Jf Jc 1 ?_;refine aq Je 0 ?_;refine al Jb I9 5 ?_;refine aq Ja 1 ?_;refine ah ?_
  refine gP rfl rfl rfl rfl rfl JT (fun w _ hS=>(by exact bZ false n.y at_ w)) ?_
  refine fe bG ?_;refine bE ?_;refine gE ?_
  refine gC (fun hc=>?_) fun hc=>?_
  ·
   have hb:iJ (cm n.op) n.y at_=false:=by rw [hY];simpa using hc
   refine gS (gR ?_);refine ai ?_;refine gE ?_
   refine gT Jk fun w' hS=>?_
   exact ⟨hS.ext,by rw [show aK n at_=3 from iP hop hb];rfl⟩
  have hoy:iJ (cm n.op) n.y at_=true:=by rw [hY];simpa using hc
  refine gK (gS (gS (gR ?_)));refine al Jf Jc 2 ?_;refine aq Je 0 ?_;refine ah ?_;refine al Jf Jc 3 ?_;refine aq Je 0 ?_;refine bE ?_;refine ah ?_;refine al Jf Jc 5 ?_;refine aq Je 0 ?_;refine bE ?_;refine fe bG ?_;refine ah ?_;refine al Jb I9 1 ?_
  refine aq Ja 1 ?_;refine aw gO ?_;refine cz ?_;refine ah ?_
  refine eD 48 (fun hc=>?_) fun hc=>?_
  ·
   have hb:n.i≠0:=by simpa using hc
   iterate 8 refine cy ?_
   refine cz ?_;refine ah ?_
   iterate 8 refine cy ?_
   refine cz ?_;refine gE (ab.bX rfl (gS (gR ?_)));refine ai ?_;refine gE ?_
   refine gT Jk fun w' hS=>?_
   exact ⟨hS.ext,by rw [show aK n at_=3 from (aZ hop hox hoy).trans (eA (by simp [iO,bne,h3,h17,hA,hG];omega))];rfl⟩
  have hzi:n.i=0:=by simpa using hc
  refine al Jf Jc 5 ?_;refine aq Je 0 ?_;refine fe bG ?_;refine ah ?_;refine al Jb I9 2 ?_;refine aq Ja 1 ?_;refine aw gO ?_;refine cz ?_;refine bE ?_;refine ah ?_
  refine eD 58 (fun hc=>?_) fun hc=>?_
  ·
   have hb:n.e≠0:=by simpa using hc
   iterate 8 refine cy ?_
   refine cz ?_;refine gE (ab.bX rfl (gS (gR ?_)));refine ai ?_;refine gE ?_
   refine gT Jk fun w' hS=>?_
   exact ⟨hS.ext,by rw [show aK n at_=3 from (aZ hop hox hoy).trans (eA (by simp [iO,bne,h3,h17,hA,hG];omega))];rfl⟩
  have hze:n.e=0:=by simpa using hc
  refine al Jf Jc 4 ?_;refine aq Je 0 ?_
  have hfa:(!iO n.op && n.i !=0||n.op !=17 && n.e !=0||!lN n.op && n.g !=0)=false:=by simp [iO,bne,h3,h17,hA,hG];omega
  refine fe bG ?_;refine ah ?_
  iterate 3 refine cy ?_
  iterate 2 refine bE ?_
  refine gE (ab.gj rfl (gK (gS (gR ?_))));refine ai ?_;refine gE (gS (gS (gR ?_)));refine ah ?_;refine al Jf Jc 2 ?_;refine aq Je 0 ?_;refine al Jb I9 1 ?_;refine aq Ja 1 ?_
  refine gP rfl rfl rfl rfl rfl Js (fun w _ hS=>(by exact bR false n.i 0 7 w)) ?_
  iterate 2 refine ah ?_
  refine al Jf Jc 3 ?_;refine aq Je 0 ?_;refine al Jb I9 1 ?_;refine aq Ja 1 ?_
  refine gP rfl rfl rfl rfl rfl Js (fun w _ hS=>(by exact bR false n.i 0 3 w)) ?_
  refine bE ?_
  iterate 2 refine ah ?_
  refine al Jf Jc 5 ?_;refine aq Je 0 ?_;refine al Jb I9 1 ?_;refine aq Ja 1 ?_
  refine gP rfl rfl rfl rfl rfl Js (fun w _ hS=>(by exact bR false n.i 0 7 w)) ?_
  refine bE ?_
  iterate 2 refine ah ?_
  refine al Jf Jc 5 ?_;refine aq Je 0 ?_;refine al Jb I9 2 ?_;refine aq Ja 1 ?_
  refine gP rfl rfl rfl rfl rfl Js (fun w _ hS=>(by exact bR false n.e 0 7 w)) ?_
  refine bE ?_
  iterate 2 refine ah ?_
  refine al Jf Jc 4 ?_;refine aq Je 0 ?_;refine al Jb I9 3 ?_;refine aq Ja 1 ?_
  refine gP rfl rfl rfl rfl rfl Js (fun w _ hS=>(by exact bR true n.g 1 15 w)) ?_
  refine bE ?_;refine gE ?_
  refine gC (fun hc=>?_) fun hc=>?_
  ·
   have hb:n.g<1∨15<n.g:=by simpa [kI] using hc
   refine gS (gR ?_);refine ai ?_;refine gE ?_
   refine gT Jk fun w' hS=>?_
   exact ⟨hS.ext,by rw [show aK n at_=2 from (aZ hop hox hoy).trans (mh hfa (by simp [h3,h17,hA,hG];omega))];rfl⟩
  have hrG:1≤n.g∧n.g≤15:=by simpa [kI] using hc
  refine gK (gS (gR ?_));refine ai ?_;refine gE ?_
  refine gT Jk fun w' hS=>?_
  exact ⟨hS.ext,by rw [show aK n at_=0 from (aZ hop hox hoy).trans (kC hfa (by simp [h3,h17,hA,hG];omega))];rfl⟩
set_option maxRecDepth 4000 in
theorem yl (n:NV) (at_ fr:Int) (w:World) (hop:1≤n.op∧n.op≤21) (hX:cF n.op=true) (hY:cm n.op=true) (h3:(n.op==3)=false) (hA:o8 n.op=false) (h17:(n.op==17)=false) (hG:lN n.op=true) (hU:qJ n.op=.agg #[.bool true,.bool true,.bool false,.bool false,.bool true,.bool false,.int .i64 fr]) (hK:okO n.op=true):
    Cn Tryz.prog 102 [n.v,.int .i64 at_] w (fun v _=>v=.int .i64 (aK n at_)):=by
  refine Cn.of Jk rfl rfl ?_
  refine gS (gR ?_)
  refine ab.bx rfl rfl rfl rfl (fun b2=>?_)
  refine ai ?_;refine gE (gS (gR ?_));refine al Jb I9 0 ?_;refine aq Ja 0 ?_
  refine gP rfl rfl rfl rfl rfl call105 (fun w _ hS=>(by have:=gV n.op w;rw [hU,hK] at this;exact this)) ?_
  refine ah ?_
  iterate 2 refine fW ?_
  refine ab.eN rfl rfl rfl (fun _=>JZ _) (fun b5=>?_)
  refine ab.dG rfl rfl rfl rfl Jl 0 rfl rfl rfl rfl ?_
  refine ai ?_;refine gE (gS (gS (gR ?_)));refine ah ?_;refine fe bG ?_;refine gE ?_
  refine ab.cond rfl (fun hc=>by exfalso;simp at hc) (fun _=>?_)
  refine gK (gS (gS (gR ?_)));refine al Jf Jc 0 ?_;refine aq Je 0 ?_;refine al Jb I9 4 ?_;refine aq Ja 1 ?_;refine ah ?_
  refine gP rfl rfl rfl rfl rfl JT (fun w _ hS=>(by exact bZ true n.x at_ w)) ?_
  refine fe bG ?_;refine ah ?_
  refine eD 23 (fun hc=>?_) fun hc=>?_
  ·
   have hb:iJ (cF n.op) n.x at_=false:=by rw [hX];simpa using hc
   iterate 7 refine cy ?_
   refine cz ?_;refine gE (ab.bX rfl (gS (gR ?_)));refine ai ?_;refine gE ?_
   refine gT Jk fun w' hS=>?_
   exact ⟨hS.ext,by rw [show aK n at_=3 from iQ hop hb];rfl⟩
  have hox:iJ (cF n.op) n.x at_=true:=by rw [hX];simpa using hc
  refine al Jf Jc 1 ?_;refine aq Je 0 ?_;refine al Jb I9 5 ?_;refine aq Ja 1 ?_;refine ah ?_
  refine gP rfl rfl rfl rfl rfl JT (fun w _ hS=>(by exact bZ true n.y at_ w)) ?_
  refine fe bG ?_;refine bE ?_;refine gE ?_
  refine gC (fun hc=>?_) fun hc=>?_
  ·
   have hb:iJ (cm n.op) n.y at_=false:=by rw [hY];simpa using hc
   refine gS (gR ?_);refine ai ?_;refine gE ?_
   refine gT Jk fun w' hS=>?_
   exact ⟨hS.ext,by rw [show aK n at_=3 from iP hop hb];rfl⟩
  have hoy:iJ (cm n.op) n.y at_=true:=by rw [hY];simpa using hc
  refine gK (gS (gS (gR ?_)));refine al Jf Jc 2 ?_;refine aq Je 0 ?_;refine ah ?_;refine al Jf Jc 3 ?_;refine aq Je 0 ?_;refine bE ?_;refine ah ?_;refine al Jf Jc 5 ?_;refine aq Je 0 ?_;refine bE ?_;refine fe bG ?_;refine ah ?_;refine al Jb I9 1 ?_
  refine aq Ja 1 ?_;refine aw gO ?_;refine cz ?_;refine ah ?_
  refine eD 48 (fun hc=>?_) fun hc=>?_
  ·
   have hb:n.i≠0:=by simpa using hc
   iterate 8 refine cy ?_
   refine cz ?_;refine ah ?_
   iterate 8 refine cy ?_
   refine cz ?_;refine gE (ab.bX rfl (gS (gR ?_)));refine ai ?_;refine gE ?_
   refine gT Jk fun w' hS=>?_
   exact ⟨hS.ext,by rw [show aK n at_=3 from (aZ hop hox hoy).trans (eA (by simp [iO,bne,h3,h17,hA,hG];omega))];rfl⟩
  have hzi:n.i=0:=by simpa using hc
  refine al Jf Jc 5 ?_;refine aq Je 0 ?_;refine fe bG ?_;refine ah ?_;refine al Jb I9 2 ?_;refine aq Ja 1 ?_;refine aw gO ?_;refine cz ?_;refine bE ?_;refine ah ?_
  refine eD 58 (fun hc=>?_) fun hc=>?_
  ·
   have hb:n.e≠0:=by simpa using hc
   iterate 8 refine cy ?_
   refine cz ?_;refine gE (ab.bX rfl (gS (gR ?_)));refine ai ?_;refine gE ?_
   refine gT Jk fun w' hS=>?_
   exact ⟨hS.ext,by rw [show aK n at_=3 from (aZ hop hox hoy).trans (eA (by simp [iO,bne,h3,h17,hA,hG];omega))];rfl⟩
  have hze:n.e=0:=by simpa using hc
  refine al Jf Jc 4 ?_;refine aq Je 0 ?_
  have hfa:(!iO n.op && n.i !=0||n.op !=17 && n.e !=0||!lN n.op && n.g !=0)=false:=by simp [iO,bne,h3,h17,hA,hG];omega
  refine fe bG ?_;refine ah ?_
  iterate 3 refine cy ?_
  iterate 2 refine bE ?_
  refine gE (ab.gj rfl (gK (gS (gR ?_))));refine ai ?_;refine gE (gS (gS (gR ?_)));refine ah ?_;refine al Jf Jc 2 ?_;refine aq Je 0 ?_;refine al Jb I9 1 ?_;refine aq Ja 1 ?_
  refine gP rfl rfl rfl rfl rfl Js (fun w _ hS=>(by exact bR false n.i 0 7 w)) ?_
  iterate 2 refine ah ?_
  refine al Jf Jc 3 ?_;refine aq Je 0 ?_;refine al Jb I9 1 ?_;refine aq Ja 1 ?_
  refine gP rfl rfl rfl rfl rfl Js (fun w _ hS=>(by exact bR false n.i 0 3 w)) ?_
  refine bE ?_
  iterate 2 refine ah ?_
  refine al Jf Jc 5 ?_;refine aq Je 0 ?_;refine al Jb I9 1 ?_;refine aq Ja 1 ?_
  refine gP rfl rfl rfl rfl rfl Js (fun w _ hS=>(by exact bR false n.i 0 7 w)) ?_
  refine bE ?_
  iterate 2 refine ah ?_
  refine al Jf Jc 5 ?_;refine aq Je 0 ?_;refine al Jb I9 2 ?_;refine aq Ja 1 ?_
  refine gP rfl rfl rfl rfl rfl Js (fun w _ hS=>(by exact bR false n.e 0 7 w)) ?_
  refine bE ?_
  iterate 2 refine ah ?_
  refine al Jf Jc 4 ?_;refine aq Je 0 ?_;refine al Jb I9 3 ?_;refine aq Ja 1 ?_
  refine gP rfl rfl rfl rfl rfl Js (fun w _ hS=>(by exact bR true n.g 1 15 w)) ?_
  refine bE ?_;refine gE ?_
  refine gC (fun hc=>?_) fun hc=>?_
  ·
   have hb:n.g<1∨15<n.g:=by simpa [kI] using hc
   refine gS (gR ?_);refine ai ?_;refine gE ?_
   refine gT Jk fun w' hS=>?_
   exact ⟨hS.ext,by rw [show aK n at_=2 from (aZ hop hox hoy).trans (mh hfa (by simp [h3,h17,hA,hG];omega))];rfl⟩
  have hrG:1≤n.g∧n.g≤15:=by simpa [kI] using hc
  refine gK (gS (gR ?_));refine ai ?_;refine gE ?_
  refine gT Jk fun w' hS=>?_
  exact ⟨hS.ext,by rw [show aK n at_=0 from (aZ hop hox hoy).trans (kC hfa (by simp [h3,h17,hA,hG];omega))];rfl⟩
set_option maxRecDepth 4000 in
theorem yn (n:NV) (at_ fr:Int) (w:World) (hop:1≤n.op∧n.op≤21) (hX:cF n.op=true) (hY:cm n.op=true) (h3:(n.op==3)=false) (hA:o8 n.op=true) (h17:(n.op==17)=false) (hG:lN n.op=false) (hU:qJ n.op=.agg #[.bool true,.bool true,.bool false,.bool true,.bool false,.bool false,.int .i64 fr]) (hK:okO n.op=true):
    Cn Tryz.prog 102 [n.v,.int .i64 at_] w (fun v _=>v=.int .i64 (aK n at_)):=by
  refine Cn.of Jk rfl rfl ?_
  refine gS (gR ?_)
  refine ab.bx rfl rfl rfl rfl (fun b2=>?_)
  refine ai ?_;refine gE (gS (gR ?_));refine al Jb I9 0 ?_;refine aq Ja 0 ?_
  refine gP rfl rfl rfl rfl rfl call105 (fun w _ hS=>(by have:=gV n.op w;rw [hU,hK] at this;exact this)) ?_
  refine ah ?_
  iterate 2 refine fW ?_
  refine ab.eN rfl rfl rfl (fun _=>JZ _) (fun b5=>?_)
  refine ab.dG rfl rfl rfl rfl Jl 0 rfl rfl rfl rfl ?_
  refine ai ?_;refine gE (gS (gS (gR ?_)));refine ah ?_;refine fe bG ?_;refine gE ?_
  refine ab.cond rfl (fun hc=>by exfalso;simp at hc) (fun _=>?_)
  refine gK (gS (gS (gR ?_)));refine al Jf Jc 0 ?_;refine aq Je 0 ?_;refine al Jb I9 4 ?_;refine aq Ja 1 ?_;refine ah ?_
  refine gP rfl rfl rfl rfl rfl JT (fun w _ hS=>(by exact bZ true n.x at_ w)) ?_
  refine fe bG ?_;refine ah ?_
  refine eD 23 (fun hc=>?_) fun hc=>?_
  ·
   have hb:iJ (cF n.op) n.x at_=false:=by rw [hX];simpa using hc
   iterate 7 refine cy ?_
   refine cz ?_;refine gE (ab.bX rfl (gS (gR ?_)));refine ai ?_;refine gE ?_
   refine gT Jk fun w' hS=>?_
   exact ⟨hS.ext,by rw [show aK n at_=3 from iQ hop hb];rfl⟩
  have hox:iJ (cF n.op) n.x at_=true:=by rw [hX];simpa using hc
  refine al Jf Jc 1 ?_;refine aq Je 0 ?_;refine al Jb I9 5 ?_;refine aq Ja 1 ?_;refine ah ?_
  refine gP rfl rfl rfl rfl rfl JT (fun w _ hS=>(by exact bZ true n.y at_ w)) ?_
  refine fe bG ?_;refine bE ?_;refine gE ?_
  refine gC (fun hc=>?_) fun hc=>?_
  ·
   have hb:iJ (cm n.op) n.y at_=false:=by rw [hY];simpa using hc
   refine gS (gR ?_);refine ai ?_;refine gE ?_
   refine gT Jk fun w' hS=>?_
   exact ⟨hS.ext,by rw [show aK n at_=3 from iP hop hb];rfl⟩
  have hoy:iJ (cm n.op) n.y at_=true:=by rw [hY];simpa using hc
  refine gK (gS (gS (gR ?_)));refine al Jf Jc 2 ?_;refine aq Je 0 ?_;refine ah ?_;refine al Jf Jc 3 ?_;refine aq Je 0 ?_;refine bE ?_;refine ah ?_
  iterate 2 refine cy ?_
  refine cz ?_;refine fe bG ?_;refine ah ?_
  iterate 3 refine cy ?_
  refine bE ?_;refine ah ?_;refine al Jf Jc 5 ?_;refine aq Je 0 ?_;refine fe bG ?_;refine ah ?_;refine al Jb I9 2 ?_;refine aq Ja 1 ?_;refine aw gO ?_;refine cz ?_;refine bE ?_;refine ah ?_
  refine eD 58 (fun hc=>?_) fun hc=>?_
  ·
   have hb:n.e≠0:=by simpa using hc
   iterate 8 refine cy ?_
   refine cz ?_;refine gE (ab.bX rfl (gS (gR ?_)));refine ai ?_;refine gE ?_
   refine gT Jk fun w' hS=>?_
   exact ⟨hS.ext,by rw [show aK n at_=3 from (aZ hop hox hoy).trans (eA (by simp [iO,bne,h3,h17,hA,hG];omega))];rfl⟩
  have hze:n.e=0:=by simpa using hc
  refine al Jf Jc 4 ?_;refine aq Je 0 ?_;refine fe bG ?_;refine ah ?_;refine al Jb I9 3 ?_;refine aq Ja 1 ?_;refine aw gO ?_;refine cz ?_;refine bE ?_;refine gE ?_
  refine gC (fun hc=>?_) fun hc=>?_
  ·
   have hb:n.g≠0:=by simpa using hc
   refine gS (gR ?_);refine ai ?_;refine gE ?_
   refine gT Jk fun w' hS=>?_
   exact ⟨hS.ext,by rw [show aK n at_=3 from (aZ hop hox hoy).trans (eA (by simp [iO,bne,h3,h17,hA,hG];omega))];rfl⟩
  have hzg:n.g=0:=by simpa using hc
  have hfa:(!iO n.op && n.i !=0||n.op !=17 && n.e !=0||!lN n.op && n.g !=0)=false:=by simp [iO,bne,h3,h17,hA,hG];omega
  refine gK (gS (gR ?_));refine ai ?_;refine gE (gS (gS (gR ?_)));refine ah ?_;refine al Jf Jc 2 ?_;refine aq Je 0 ?_;refine al Jb I9 1 ?_;refine aq Ja 1 ?_
  refine gP rfl rfl rfl rfl rfl Js (fun w _ hS=>(by exact bR false n.i 0 7 w)) ?_
  iterate 2 refine ah ?_
  refine al Jf Jc 3 ?_;refine aq Je 0 ?_;refine al Jb I9 1 ?_;refine aq Ja 1 ?_
  refine gP rfl rfl rfl rfl rfl Js (fun w _ hS=>(by exact bR true n.i 0 3 w)) ?_
  refine bE ?_;refine ah ?_
  refine eD 82 (fun hc=>?_) fun hc=>?_
  ·
   have hb:n.i<0∨3<n.i:=by simpa [kI] using hc
   iterate 6 refine cy ?_
   refine cz ?_;refine ah ?_
   iterate 6 refine cy ?_
   refine cz ?_;refine ah ?_
   iterate 6 refine cy ?_
   refine cz ?_;refine gE (ab.bX rfl (gS (gR ?_)));refine ai ?_;refine gE ?_
   refine gT Jk fun w' hS=>?_
   exact ⟨hS.ext,by rw [show aK n at_=2 from (aZ hop hox hoy).trans (mh hfa (by simp [h3,h17,hA,hG];omega))];rfl⟩
  have hrA:0≤n.i∧n.i≤3:=by simpa [kI] using hc
  refine ah ?_;refine al Jf Jc 5 ?_;refine aq Je 0 ?_;refine al Jb I9 1 ?_;refine aq Ja 1 ?_
  refine gP rfl rfl rfl rfl rfl Js (fun w _ hS=>(by exact bR false n.i 0 7 w)) ?_
  refine bE ?_
  iterate 2 refine ah ?_
  refine al Jf Jc 5 ?_;refine aq Je 0 ?_;refine al Jb I9 2 ?_;refine aq Ja 1 ?_
  refine gP rfl rfl rfl rfl rfl Js (fun w _ hS=>(by exact bR false n.e 0 7 w)) ?_
  refine bE ?_
  iterate 2 refine ah ?_
  refine al Jf Jc 4 ?_;refine aq Je 0 ?_;refine al Jb I9 3 ?_;refine aq Ja 1 ?_
  refine gP rfl rfl rfl rfl rfl Js (fun w _ hS=>(by exact bR false n.g 1 15 w)) ?_
  refine bE ?_;refine gE (ab.gj rfl (gK (gS (gR ?_))));refine ai ?_;refine gE ?_
  refine gT Jk fun w' hS=>?_
  exact ⟨hS.ext,by rw [show aK n at_=0 from (aZ hop hox hoy).trans (kC hfa (by simp [h3,h17,hA,hG];omega))];rfl⟩
set_option maxRecDepth 4000 in
theorem yo (n:NV) (at_ fr:Int) (w:World) (hop:1≤n.op∧n.op≤21) (hX:cF n.op=true) (hY:cm n.op=false) (h3:(n.op==3)=false) (hA:o8 n.op=false) (h17:(n.op==17)=true) (hG:lN n.op=false) (hU:qJ n.op=.agg #[.bool true,.bool false,.bool false,.bool false,.bool false,.bool true,.int .i64 fr]) (hK:okO n.op=true):
    Cn Tryz.prog 102 [n.v,.int .i64 at_] w (fun v _=>v=.int .i64 (aK n at_)):=by
  refine Cn.of Jk rfl rfl ?_
  refine gS (gR ?_)
  refine ab.bx rfl rfl rfl rfl (fun b2=>?_)
  refine ai ?_;refine gE (gS (gR ?_));refine al Jb I9 0 ?_;refine aq Ja 0 ?_
  refine gP rfl rfl rfl rfl rfl call105 (fun w _ hS=>(by have:=gV n.op w;rw [hU,hK] at this;exact this)) ?_
  refine ah ?_
  iterate 2 refine fW ?_
  refine ab.eN rfl rfl rfl (fun _=>JZ _) (fun b5=>?_)
  refine ab.dG rfl rfl rfl rfl Jl 0 rfl rfl rfl rfl ?_
  refine ai ?_;refine gE (gS (gS (gR ?_)));refine ah ?_;refine fe bG ?_;refine gE ?_
  refine ab.cond rfl (fun hc=>by exfalso;simp at hc) (fun _=>?_)
  refine gK (gS (gS (gR ?_)));refine al Jf Jc 0 ?_;refine aq Je 0 ?_;refine al Jb I9 4 ?_;refine aq Ja 1 ?_;refine ah ?_
  refine gP rfl rfl rfl rfl rfl JT (fun w _ hS=>(by exact bZ true n.x at_ w)) ?_
  refine fe bG ?_;refine ah ?_
  refine eD 23 (fun hc=>?_) fun hc=>?_
  ·
   have hb:iJ (cF n.op) n.x at_=false:=by rw [hX];simpa using hc
   iterate 7 refine cy ?_
   refine cz ?_;refine gE (ab.bX rfl (gS (gR ?_)));refine ai ?_;refine gE ?_
   refine gT Jk fun w' hS=>?_
   exact ⟨hS.ext,by rw [show aK n at_=3 from iQ hop hb];rfl⟩
  have hox:iJ (cF n.op) n.x at_=true:=by rw [hX];simpa using hc
  refine al Jf Jc 1 ?_;refine aq Je 0 ?_;refine al Jb I9 5 ?_;refine aq Ja 1 ?_;refine ah ?_
  refine gP rfl rfl rfl rfl rfl JT (fun w _ hS=>(by exact bZ false n.y at_ w)) ?_
  refine fe bG ?_;refine bE ?_;refine gE ?_
  refine gC (fun hc=>?_) fun hc=>?_
  ·
   have hb:iJ (cm n.op) n.y at_=false:=by rw [hY];simpa using hc
   refine gS (gR ?_);refine ai ?_;refine gE ?_
   refine gT Jk fun w' hS=>?_
   exact ⟨hS.ext,by rw [show aK n at_=3 from iP hop hb];rfl⟩
  have hoy:iJ (cm n.op) n.y at_=true:=by rw [hY];simpa using hc
  refine gK (gS (gS (gR ?_)));refine al Jf Jc 2 ?_;refine aq Je 0 ?_;refine ah ?_;refine al Jf Jc 3 ?_;refine aq Je 0 ?_;refine bE ?_;refine ah ?_;refine al Jf Jc 5 ?_;refine aq Je 0 ?_;refine bE ?_;refine fe bG ?_;refine ah ?_
  iterate 3 refine cy ?_
  refine bE ?_;refine ah ?_;refine al Jf Jc 5 ?_;refine aq Je 0 ?_;refine fe bG ?_;refine ah ?_
  iterate 3 refine cy ?_
  iterate 2 refine bE ?_
  refine ah ?_;refine al Jf Jc 4 ?_;refine aq Je 0 ?_;refine fe bG ?_;refine ah ?_;refine al Jb I9 3 ?_;refine aq Ja 1 ?_;refine aw gO ?_;refine cz ?_;refine bE ?_;refine gE ?_
  refine gC (fun hc=>?_) fun hc=>?_
  ·
   have hb:n.g≠0:=by simpa using hc
   refine gS (gR ?_);refine ai ?_;refine gE ?_
   refine gT Jk fun w' hS=>?_
   exact ⟨hS.ext,by rw [show aK n at_=3 from (aZ hop hox hoy).trans (eA (by simp [iO,bne,h3,h17,hA,hG];omega))];rfl⟩
  have hzg:n.g=0:=by simpa using hc
  have hfa:(!iO n.op && n.i !=0||n.op !=17 && n.e !=0||!lN n.op && n.g !=0)=false:=by simp [iO,bne,h3,h17,hA,hG];omega
  refine gK (gS (gR ?_));refine ai ?_;refine gE (gS (gS (gR ?_)));refine ah ?_;refine al Jf Jc 2 ?_;refine aq Je 0 ?_;refine al Jb I9 1 ?_;refine aq Ja 1 ?_
  refine gP rfl rfl rfl rfl rfl Js (fun w _ hS=>(by exact bR false n.i 0 7 w)) ?_
  iterate 2 refine ah ?_
  refine al Jf Jc 3 ?_;refine aq Je 0 ?_;refine al Jb I9 1 ?_;refine aq Ja 1 ?_
  refine gP rfl rfl rfl rfl rfl Js (fun w _ hS=>(by exact bR false n.i 0 3 w)) ?_
  refine bE ?_
  iterate 2 refine ah ?_
  refine al Jf Jc 5 ?_;refine aq Je 0 ?_;refine al Jb I9 1 ?_;refine aq Ja 1 ?_
  refine gP rfl rfl rfl rfl rfl Js (fun w _ hS=>(by exact bR true n.i 0 7 w)) ?_
  refine bE ?_;refine ah ?_
  refine eD 90 (fun hc=>?_) fun hc=>?_
  ·
   have hb:n.i<0∨7<n.i:=by simpa [kI] using hc
   iterate 6 refine cy ?_
   refine cz ?_;refine ah ?_
   iterate 6 refine cy ?_
   refine cz ?_;refine gE (ab.bX rfl (gS (gR ?_)));refine ai ?_;refine gE ?_
   refine gT Jk fun w' hS=>?_
   exact ⟨hS.ext,by rw [show aK n at_=2 from (aZ hop hox hoy).trans (mh hfa (by simp [h3,h17,hA,hG];omega))];rfl⟩
  have hr17:0≤n.i∧n.i≤7:=by simpa [kI] using hc
  refine ah ?_;refine al Jf Jc 5 ?_;refine aq Je 0 ?_;refine al Jb I9 2 ?_;refine aq Ja 1 ?_
  refine gP rfl rfl rfl rfl rfl Js (fun w _ hS=>(by exact bR true n.e 0 7 w)) ?_
  refine bE ?_;refine ah ?_
  refine eD 98 (fun hc=>?_) fun hc=>?_
  ·
   have hb:n.e<0∨7<n.e:=by simpa [kI] using hc
   iterate 6 refine cy ?_
   refine cz ?_;refine gE (ab.bX rfl (gS (gR ?_)));refine ai ?_;refine gE ?_
   refine gT Jk fun w' hS=>?_
   exact ⟨hS.ext,by rw [show aK n at_=2 from (aZ hop hox hoy).trans (mh hfa (by simp [h3,h17,hA,hG];omega))];rfl⟩
  have hrE:0≤n.e∧n.e≤7:=by simpa [kI] using hc
  refine ah ?_;refine al Jf Jc 4 ?_;refine aq Je 0 ?_;refine al Jb I9 3 ?_;refine aq Ja 1 ?_
  refine gP rfl rfl rfl rfl rfl Js (fun w _ hS=>(by exact bR false n.g 1 15 w)) ?_
  refine bE ?_;refine gE (ab.gj rfl (gK (gS (gR ?_))));refine ai ?_;refine gE ?_
  refine gT Jk fun w' hS=>?_
  exact ⟨hS.ext,by rw [show aK n at_=0 from (aZ hop hox hoy).trans (kC hfa (by simp [h3,h17,hA,hG];omega))];rfl⟩
theorem ym (n:NV) (at_:Int) (w:World):Cn Tryz.prog 102 [n.v,.int .i64 at_] w (fun v _=>v=.int .i64 (aK n at_)):=by
 by_cases hop:1≤n.op∧n.op≤21
 ·obtain ⟨op,i,e,g,x,y⟩:=n
  dsimp only at hop
  have hcs:op=1∨op=2∨op=3∨op=4∨op=5∨op=6∨op=7∨op=8∨op=9∨op=10∨op=11∨op=12∨op=13∨op=14∨op=15∨op=16∨op=17∨op=18∨op=19∨op=20∨op=21:=by omega
  rcases hcs with rfl|rfl|rfl|rfl|rfl|rfl|rfl|rfl|rfl|rfl|rfl|rfl|rfl|rfl|rfl|rfl|rfl|rfl|rfl|rfl|rfl
  ·exact qR ⟨1,i,e,g,x,y⟩ at_ _ w hop rfl rfl rfl rfl rfl rfl rfl rfl
  ·exact qR ⟨2,i,e,g,x,y⟩ at_ _ w hop rfl rfl rfl rfl rfl rfl rfl rfl
  ·exact wC ⟨3,i,e,g,x,y⟩ at_ _ w hop rfl rfl rfl rfl rfl rfl rfl rfl
  ·exact pF ⟨4,i,e,g,x,y⟩ at_ _ w hop rfl rfl rfl rfl rfl rfl rfl rfl
  ·exact i9 ⟨5,i,e,g,x,y⟩ at_ _ w hop rfl rfl rfl rfl rfl rfl rfl rfl
  ·exact i9 ⟨6,i,e,g,x,y⟩ at_ _ w hop rfl rfl rfl rfl rfl rfl rfl rfl
  ·exact i9 ⟨7,i,e,g,x,y⟩ at_ _ w hop rfl rfl rfl rfl rfl rfl rfl rfl
  ·exact i9 ⟨8,i,e,g,x,y⟩ at_ _ w hop rfl rfl rfl rfl rfl rfl rfl rfl
  ·exact nN ⟨9,i,e,g,x,y⟩ at_ _ w hop rfl rfl rfl rfl rfl rfl rfl rfl
  ·exact nN ⟨10,i,e,g,x,y⟩ at_ _ w hop rfl rfl rfl rfl rfl rfl rfl rfl
  ·exact sX ⟨11,i,e,g,x,y⟩ at_ _ w hop rfl rfl rfl rfl rfl rfl rfl rfl
  ·exact sX ⟨12,i,e,g,x,y⟩ at_ _ w hop rfl rfl rfl rfl rfl rfl rfl rfl
  ·exact yl ⟨13,i,e,g,x,y⟩ at_ _ w hop rfl rfl rfl rfl rfl rfl rfl rfl
  ·exact yn ⟨14,i,e,g,x,y⟩ at_ _ w hop rfl rfl rfl rfl rfl rfl rfl rfl
  ·exact nN ⟨15,i,e,g,x,y⟩ at_ _ w hop rfl rfl rfl rfl rfl rfl rfl rfl
  ·exact i9 ⟨16,i,e,g,x,y⟩ at_ _ w hop rfl rfl rfl rfl rfl rfl rfl rfl
  ·exact yo ⟨17,i,e,g,x,y⟩ at_ _ w hop rfl rfl rfl rfl rfl rfl rfl rfl
  ·exact pF ⟨18,i,e,g,x,y⟩ at_ _ w hop rfl rfl rfl rfl rfl rfl rfl rfl
  ·exact i9 ⟨19,i,e,g,x,y⟩ at_ _ w hop rfl rfl rfl rfl rfl rfl rfl rfl
  ·exact pF ⟨20,i,e,g,x,y⟩ at_ _ w hop rfl rfl rfl rfl rfl rfl rfl rfl
  exact i9 ⟨21,i,e,g,x,y⟩ at_ _ w hop rfl rfl rfl rfl rfl rfl rfl rfl
 refine Cn.of Jk rfl rfl ?_
 have hK:=vr hop
 refine gS (gR ?_)
 refine ab.bx rfl rfl rfl rfl (fun b2=>?_)
 refine ai ?_;refine gE (gS (gR ?_));refine al Jb I9 0 ?_;refine aq Ja 0 ?_
 refine gP rfl rfl rfl rfl rfl call105 (fun w _ hS=>(by have:=gV n.op w;rw [hK] at this;exact this)) ?_
 refine ah ?_
 iterate 2 refine fW ?_
 refine ab.eN rfl rfl rfl (fun _=>JZ _) (fun b5=>?_)
 refine ab.dG rfl rfl rfl rfl Jl 0 rfl rfl rfl rfl ?_
 refine ai ?_;refine gE (gS (gS (gR ?_)));refine ah ?_;refine fe bG ?_;refine gE ?_
 refine ab.cond rfl (fun _=>?_) (fun hc=>by exfalso;simp at hc)
 refine gS (gR ?_);refine ai ?_;refine gE ?_
 refine gT Jk fun w' hS=>?_
 exact ⟨hS.ext,by rw [yp hop];rfl⟩
theorem fR (a:Option Addr) (ca:Nat) (f:List NV) (w:World) (ha:FA w a f) (hl:f.length≤maxLen):Cn Tryz.prog 54 [.slice a f.length ca] w (fun v _=>v=.int .i64 (aV f)):=by
  unfold maxLen at hl
  refine Cn.of func54 rfl rfl ?_
  refine gS (gR ?_);refine ai ?_;refine gE (gS (gS (gR ?_)));refine ah ?_;refine dY Ji ?_;refine aw bh ?_;refine gE ?_
  refine gC (fun hc=>?_) fun hc=>?_
  ·
   have h1:f.length=0:=by simpa using hc
   refine gS (gR ?_);refine ai ?_;refine gE ?_
   refine gT func54 fun w' hS=>?_
   exact ⟨hS.ext,by rw [aV,if_pos h1];rfl⟩
  have h1:¬f.length=0:=by simpa using hc
  refine gK (gS (gS (gR ?_)));refine ah ?_;refine dY Ji ?_;refine aw w6 ?_;refine gE ?_
  refine gC (fun hc=>?_) fun hc=>?_
  ·
   have h2:200<f.length:=by simp at hc;omega
   refine gS (gR ?_);refine ai ?_;refine gE ?_
   refine gT func54 fun w' hS=>?_
   exact ⟨hS.ext,by rw [aV,if_neg h1,if_pos h2];rfl⟩
  have h2:¬200<f.length:=by simp at hc;omega
  refine gK (gS (gS (gR ?_)));refine ah ?_;refine dY Ji ?_;refine ah ?_;refine gE (gB ?_)
  refine ab.loop (σ:=Nat) (fun k=>[(0,.slice a f.length ca),(12,.slice a f.length ca),(13,.int .i64 f.length),(14,.int .i64 k)]) (fun _=>[]) (fun k=>k≤f.length∧fA (wT f) k=0) (fun k=>f.length - k) 0 ⟨Nat.zero_le _,rfl⟩ ⟨rfl,rfl,rfl,rfl,trivial⟩ .slnil (fun k hI IH=>?_)
  obtain ⟨hk,hz⟩:=hI
  refine gS (gR ?_);refine aw jl ?_;refine gE (gS ?_)
  refine gC (fun hc=>?_) fun hc=>?_
  ·
   have hlt:k<f.length:=by simpa using hc
   have he:wT f k=aK f[k] k:=by simp [wT,List.getD_eq_getElem?_getD,hlt]
   refine gK (gS (gB (gS (gR ?_))));refine ah ?_
   refine ab.v (ae.ez rfl rfl rfl rfl rfl Ji Jd ⟨_,(ha).at_⟩ (aD (enc:=NV.cells) (sz:=6) (fun _=>rfl)) (by decide) (k) ⟨rfl,hlt⟩) ?_
   refine ab.v (ae.nR (cs:=NV.cells f[k]) rfl rfl rfl rfl Jt Jd (fun w _ hS=>Sl.many (enc:=NV.cells) (sz:=6) (ha.ay hS.ext).at_ (fun _=>rfl) hlt)) ?_
   refine ab.eN rfl rfl rfl (fun _=>Jq _) (fun b4=>?_)
   refine ai ?_
   refine ab.dG rfl rfl rfl rfl Jd 0 rfl rfl rfl rfl ?_
   refine gE (gS (gR ?_))
   refine ab.v (ae.iR rfl rfl rfl rfl Jt 0 rfl Jd rfl) ?_
   refine ah ?_
   refine gP rfl rfl rfl rfl rfl call102 (fun w _ hS=>(by exact ym f[k] k w)) ?_
   refine ai ?_;refine gE (gS (gR ?_));refine ah ?_;refine aw gO ?_;refine gE ?_
   refine gC (fun hc=>?_) fun hc=>?_
   ·
    have h3:aK f[k] k≠0:=by simpa using hc
    refine gS (gR ?_);refine ah ?_;refine ai ?_;refine gE ?_
    refine gT func54 fun w' hS=>?_
    exact ⟨hS.ext,by rw [aV,if_neg h1,if_neg h2,uN hz (by rw [he];exact h3) hlt,he];rfl⟩
   have h3:aK f[k] k=0:=by simpa using hc
   refine gK (dQ (gR ?_));refine df rfl rfl rfl rfl (cD (by omega)) ?_;refine ah ?_;refine gE ?_
   exact IH (k+1) _ _ ⟨hlt,by rw [fA,if_neg (by simp [hz]),he];exact h3⟩ (by omega) ⟨rfl,rfl,rfl,rfl,trivial⟩ (.cons _ .slnil)
  have hge:¬k<f.length:=by simpa using hc
  obtain rfl:k=f.length:=by omega
  refine ab.exit rfl (gS (gR ?_))
  refine ai ?_;refine gE ?_
  refine gT func54 fun w' hS=>?_
  exact ⟨hS.ext,by rw [aV,if_neg h1,if_neg h2,hz];rfl⟩
end Go.Proofs.YtnfmegcknckahaaGreatDoor
