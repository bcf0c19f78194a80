/- What calls of the program return, under the conditions that each theorem states. -/
import Derived.Test.YtnfmegcknckahaaGreatDoorXA04
import Derived.Test.YtnfmegcknckahaaGreatDoorXA05
import Derived.Test.YtnfmegcknckahaaGreatDoorXA03
namespace Go.Proofs.YtnfmegcknckahaaGreatDoor
open Go.RowKit Go.Proofs.Wit Tryz
theorem vE:∃fs,Tryz.prog.underlying 66=some (.struct fs)∧pO fs 3:=⟨_,Jk,_,_,_,_,_,_,rfl,⟨by decide,rfl,rfl⟩,⟨by decide,rfl,rfl⟩,⟨by decide,rfl,rfl⟩,⟨by decide,rfl,rfl⟩,⟨by decide,rfl,rfl⟩,⟨by decide,rfl,rfl⟩⟩
theorem xR:Tryz.prog.stoodInHeld 66=false:=by kernel_rfl
theorem DX:Tryz.prog.eqGuardType Tryz.prog.depth 66=false:=by kernel_rfl
theorem Cs:(Tryz.prog.info? 66).map (fun i=>(i.zero,i.size,i.bytes))=some (some GQ.v,6,48):=by kernel_rfl
structure we (q:Option Nat) (cap:Nat) (ts:List Tr) (sp:List Value):Prop where
  nil:q=none→(aQ ts).length=0∧cap=0
  cap:((aQ ts).flatMap NV.cells++sp).length=cap*6
  oQ:l9 ts
  nd:ts.Nodup
  wf:∀u∈ts,u.wf
theorem wM {ts:List Tr} {t:Tr} (ht:t∉ts):(ts++[t]).idxOf t=ts.length:=by
 rw [List.idxOf_append,if_neg ht];simp
end Go.Proofs.YtnfmegcknckahaaGreatDoor
namespace Go.Proofs.YtnfmegcknckahaaGreatDoor
open Go.RowKit Go.Proofs.Wit Tryz
set_option maxRecDepth 4000 in
theorem gV (op:Int) (w:World):Cn Tryz.prog 105 [.int .i64 op] w (fun v _=>v=.tuple #[qQ op,.bool (okO op)]):=by
  refine Cn.of JU rfl rfl ?_
  refine gS (gR ?_)
  refine ab.eO rfl rfl rfl (fun _=>J8 _) (fun b2=>?_)
  refine ai ?_;refine gE (gS (gS (gR ?_)));refine ah ?_;refine gE (gB (gS (gS (gR ?_))));refine aw bd ?_;refine ai ?_;refine gE ?_
  refine gC (fun hc=>?_) fun hc=>?_
  ·
   have h:op=1:=by simpa using hc
   refine gK ?_
   refine ab.cond rfl (fun _=>?_) (fun hc=>by exfalso;simp [h] at hc)
   refine gS (gR ?_)
   refine ab.v (ae.eN rfl rfl rfl rfl (bd122 (c:=[_,_,_,_,_,_,_]) rfl)) ?_
   refine ab.dF rfl rfl rfl rfl Ju 0 rfl rfl rfl rfl ?_
   refine ai ?_;refine gE ?_
   refine ab.fJ Tryz.f105 JU _ (aO.cell rfl JV Ju (j:=0) rfl rfl (aO.tmp rfl aO.nil)) (fun w' hS=>?_)
   exact ⟨hS.ext,by subst h;rfl⟩
  have h1:op≠1:=by simpa using hc
  refine gR ?_;refine aw bd ?_;refine ai ?_;refine gE ?_
  refine gC (fun hc=>?_) fun hc=>?_
  ·
   have h:op=2:=by simpa using hc
   refine gS (gR ?_)
   refine ab.v (ae.eN rfl rfl rfl rfl (bd122 (c:=[_,_,_,_,_,_,_]) rfl)) ?_
   refine ab.dF rfl rfl rfl rfl Ju 0 rfl rfl rfl rfl ?_
   refine ai ?_;refine gE ?_
   refine ab.fJ Tryz.f105 JU _ (aO.cell rfl JV Ju (j:=0) rfl rfl (aO.tmp rfl aO.nil)) (fun w' hS=>?_)
   exact ⟨hS.ext,by subst h;rfl⟩
  have h2:op≠2:=by simpa using hc
  refine gS (gR ?_);refine aw bd ?_;refine ai ?_;refine gE ?_
  refine gC (fun hc=>?_) fun hc=>?_
  ·
   have h:op=3:=by simpa using hc
   refine gS (gR ?_)
   refine ab.v (ae.eN rfl rfl rfl rfl (bd122 (c:=[_,_,_,_,_,_,_]) rfl)) ?_
   refine ab.dF rfl rfl rfl rfl Ju 0 rfl rfl rfl rfl ?_
   refine ai ?_;refine gE ?_
   refine ab.fJ Tryz.f105 JU _ (aO.cell rfl JV Ju (j:=0) rfl rfl (aO.tmp rfl aO.nil)) (fun w' hS=>?_)
   exact ⟨hS.ext,by subst h;rfl⟩
  have h3:op≠3:=by simpa using hc
  refine gS (gR ?_);refine aw bd ?_;refine ai ?_;refine gE ?_
  refine gC (fun hc=>?_) fun hc=>?_
  ·
   have h:op=4:=by simpa using hc
   refine gS (gR ?_)
   refine ab.v (ae.eN rfl rfl rfl rfl (bd122 (c:=[_,_,_,_,_,_,_]) rfl)) ?_
   refine ab.dF rfl rfl rfl rfl Ju 0 rfl rfl rfl rfl ?_
   refine ai ?_;refine gE ?_
   refine ab.fJ Tryz.f105 JU _ (aO.cell rfl JV Ju (j:=0) rfl rfl (aO.tmp rfl aO.nil)) (fun w' hS=>?_)
   exact ⟨hS.ext,by subst h;rfl⟩
  have h4:op≠4:=by simpa using hc
  refine gS (gS (gR ?_));refine aw bd ?_;refine ai ?_;refine gE ?_
  refine gC (fun hc=>?_) fun hc=>?_
  ·
   have h:op=5:=by simpa using hc
   refine gK ?_
   refine ab.cond rfl (fun _=>?_) (fun hc=>by exfalso;simp [h] at hc)
   refine gS (gR ?_)
   refine ab.v (ae.eN rfl rfl rfl rfl (bd122 (c:=[_,_,_,_,_,_,_]) rfl)) ?_
   refine ab.dF rfl rfl rfl rfl Ju 0 rfl rfl rfl rfl ?_
   refine ai ?_;refine gE ?_
   refine ab.fJ Tryz.f105 JU _ (aO.cell rfl JV Ju (j:=0) rfl rfl (aO.tmp rfl aO.nil)) (fun w' hS=>?_)
   exact ⟨hS.ext,by subst h;rfl⟩
  have h5:op≠5:=by simpa using hc
  refine gS (gR ?_);refine aw bd ?_;refine ai ?_;refine gE ?_
  refine gC (fun hc=>?_) fun hc=>?_
  ·
   have h:op=6:=by simpa using hc
   refine gK ?_
   refine ab.cond rfl (fun _=>?_) (fun hc=>by exfalso;simp [h] at hc)
   refine gS (gR ?_)
   refine ab.v (ae.eN rfl rfl rfl rfl (bd122 (c:=[_,_,_,_,_,_,_]) rfl)) ?_
   refine ab.dF rfl rfl rfl rfl Ju 0 rfl rfl rfl rfl ?_
   refine ai ?_;refine gE ?_
   refine ab.fJ Tryz.f105 JU _ (aO.cell rfl JV Ju (j:=0) rfl rfl (aO.tmp rfl aO.nil)) (fun w' hS=>?_)
   exact ⟨hS.ext,by subst h;rfl⟩
  have h6:op≠6:=by simpa using hc
  refine gS (gR ?_);refine aw bd ?_;refine ai ?_;refine gE ?_
  refine gC (fun hc=>?_) fun hc=>?_
  ·
   have h:op=7:=by simpa using hc
   refine gK ?_
   refine ab.cond rfl (fun _=>?_) (fun hc=>by exfalso;simp [h] at hc)
   refine gS (gR ?_)
   refine ab.v (ae.eN rfl rfl rfl rfl (bd122 (c:=[_,_,_,_,_,_,_]) rfl)) ?_
   refine ab.dF rfl rfl rfl rfl Ju 0 rfl rfl rfl rfl ?_
   refine ai ?_;refine gE ?_
   refine ab.fJ Tryz.f105 JU _ (aO.cell rfl JV Ju (j:=0) rfl rfl (aO.tmp rfl aO.nil)) (fun w' hS=>?_)
   exact ⟨hS.ext,by subst h;rfl⟩
  have h7:op≠7:=by simpa using hc
  refine gR ?_;refine aw bd ?_;refine ai ?_;refine gE ?_
  refine gC (fun hc=>?_) fun hc=>?_
  ·
   have h:op=8:=by simpa using hc
   refine gS (gR ?_)
   refine ab.v (ae.eN rfl rfl rfl rfl (bd122 (c:=[_,_,_,_,_,_,_]) rfl)) ?_
   refine ab.dF rfl rfl rfl rfl Ju 0 rfl rfl rfl rfl ?_
   refine ai ?_;refine gE ?_
   refine ab.fJ Tryz.f105 JU _ (aO.cell rfl JV Ju (j:=0) rfl rfl (aO.tmp rfl aO.nil)) (fun w' hS=>?_)
   exact ⟨hS.ext,by subst h;rfl⟩
  have h8:op≠8:=by simpa using hc
  refine gS (gS (gR ?_));refine aw bd ?_;refine ai ?_;refine gE ?_
  refine gC (fun hc=>?_) fun hc=>?_
  ·
   have h:op=9:=by simpa using hc
   refine gK ?_
   refine ab.cond rfl (fun _=>?_) (fun hc=>by exfalso;simp [h] at hc)
   refine gS (gR ?_)
   refine ab.v (ae.eN rfl rfl rfl rfl (bd122 (c:=[_,_,_,_,_,_,_]) rfl)) ?_
   refine ab.dF rfl rfl rfl rfl Ju 0 rfl rfl rfl rfl ?_
   refine ai ?_;refine gE ?_
   refine ab.fJ Tryz.f105 JU _ (aO.cell rfl JV Ju (j:=0) rfl rfl (aO.tmp rfl aO.nil)) (fun w' hS=>?_)
   exact ⟨hS.ext,by subst h;rfl⟩
  have h9:op≠9:=by simpa using hc
  refine gR ?_;refine aw bd ?_;refine ai ?_;refine gE ?_
  refine gC (fun hc=>?_) fun hc=>?_
  ·
   have h:op=10:=by simpa using hc
   refine gS (gR ?_)
   refine ab.v (ae.eN rfl rfl rfl rfl (bd122 (c:=[_,_,_,_,_,_,_]) rfl)) ?_
   refine ab.dF rfl rfl rfl rfl Ju 0 rfl rfl rfl rfl ?_
   refine ai ?_;refine gE ?_
   refine ab.fJ Tryz.f105 JU _ (aO.cell rfl JV Ju (j:=0) rfl rfl (aO.tmp rfl aO.nil)) (fun w' hS=>?_)
   exact ⟨hS.ext,by subst h;rfl⟩
  have h10:op≠10:=by simpa using hc
  refine gS (gR ?_);refine aw bd ?_;refine ai ?_;refine gE ?_
  refine gC (fun hc=>?_) fun hc=>?_
  ·
   have h:op=11:=by simpa using hc
   refine gS (gR ?_)
   refine ab.v (ae.eN rfl rfl rfl rfl (bd122 (c:=[_,_,_,_,_,_,_]) rfl)) ?_
   refine ab.dF rfl rfl rfl rfl Ju 0 rfl rfl rfl rfl ?_
   refine ai ?_;refine gE ?_
   refine ab.fJ Tryz.f105 JU _ (aO.cell rfl JV Ju (j:=0) rfl rfl (aO.tmp rfl aO.nil)) (fun w' hS=>?_)
   exact ⟨hS.ext,by subst h;rfl⟩
  have h11:op≠11:=by simpa using hc
  refine gS (gR ?_);refine aw bd ?_;refine ai ?_;refine gE ?_
  refine gC (fun hc=>?_) fun hc=>?_
  ·
   have h:op=12:=by simpa using hc
   refine gS (gR ?_)
   refine ab.v (ae.eN rfl rfl rfl rfl (bd122 (c:=[_,_,_,_,_,_,_]) rfl)) ?_
   refine ab.dF rfl rfl rfl rfl Ju 0 rfl rfl rfl rfl ?_
   refine ai ?_;refine gE ?_
   refine ab.fJ Tryz.f105 JU _ (aO.cell rfl JV Ju (j:=0) rfl rfl (aO.tmp rfl aO.nil)) (fun w' hS=>?_)
   exact ⟨hS.ext,by subst h;rfl⟩
  have h12:op≠12:=by simpa using hc
  refine gS (gR ?_);refine aw bd ?_;refine ai ?_;refine gE ?_
  refine gC (fun hc=>?_) fun hc=>?_
  ·
   have h:op=13:=by simpa using hc
   refine gS (gR ?_)
   refine ab.v (ae.eN rfl rfl rfl rfl (bd122 (c:=[_,_,_,_,_,_,_]) rfl)) ?_
   refine ab.dF rfl rfl rfl rfl Ju 0 rfl rfl rfl rfl ?_
   refine ai ?_;refine gE ?_
   refine ab.fJ Tryz.f105 JU _ (aO.cell rfl JV Ju (j:=0) rfl rfl (aO.tmp rfl aO.nil)) (fun w' hS=>?_)
   exact ⟨hS.ext,by subst h;rfl⟩
  have h13:op≠13:=by simpa using hc
  refine gS (gR ?_);refine aw bd ?_;refine ai ?_;refine gE ?_
  refine gC (fun hc=>?_) fun hc=>?_
  ·
   have h:op=14:=by simpa using hc
   refine gS (gR ?_)
   refine ab.v (ae.eN rfl rfl rfl rfl (bd122 (c:=[_,_,_,_,_,_,_]) rfl)) ?_
   refine ab.dF rfl rfl rfl rfl Ju 0 rfl rfl rfl rfl ?_
   refine ai ?_;refine gE ?_
   refine ab.fJ Tryz.f105 JU _ (aO.cell rfl JV Ju (j:=0) rfl rfl (aO.tmp rfl aO.nil)) (fun w' hS=>?_)
   exact ⟨hS.ext,by subst h;rfl⟩
  have h14:op≠14:=by simpa using hc
  refine gS (gR ?_);refine aw bd ?_;refine ai ?_;refine gE ?_
  refine gC (fun hc=>?_) fun hc=>?_
  ·
   have h:op=15:=by simpa using hc
   refine gS (gR ?_)
   refine ab.v (ae.eN rfl rfl rfl rfl (bd122 (c:=[_,_,_,_,_,_,_]) rfl)) ?_
   refine ab.dF rfl rfl rfl rfl Ju 0 rfl rfl rfl rfl ?_
   refine ai ?_;refine gE ?_
   refine ab.fJ Tryz.f105 JU _ (aO.cell rfl JV Ju (j:=0) rfl rfl (aO.tmp rfl aO.nil)) (fun w' hS=>?_)
   exact ⟨hS.ext,by subst h;rfl⟩
  have h15:op≠15:=by simpa using hc
  refine gS (gR ?_);refine aw bd ?_;refine ai ?_;refine gE ?_
  refine gC (fun hc=>?_) fun hc=>?_
  ·
   have h:op=16:=by simpa using hc
   refine gS (gR ?_)
   refine ab.v (ae.eN rfl rfl rfl rfl (bd122 (c:=[_,_,_,_,_,_,_]) rfl)) ?_
   refine ab.dF rfl rfl rfl rfl Ju 0 rfl rfl rfl rfl ?_
   refine ai ?_;refine gE ?_
   refine ab.fJ Tryz.f105 JU _ (aO.cell rfl JV Ju (j:=0) rfl rfl (aO.tmp rfl aO.nil)) (fun w' hS=>?_)
   exact ⟨hS.ext,by subst h;rfl⟩
  have h16:op≠16:=by simpa using hc
  refine gS (gR ?_);refine aw bd ?_;refine ai ?_;refine gE ?_
  refine gC (fun hc=>?_) fun hc=>?_
  ·
   have h:op=17:=by simpa using hc
   refine gS (gR ?_)
   refine ab.v (ae.eN rfl rfl rfl rfl (bd122 (c:=[_,_,_,_,_,_,_]) rfl)) ?_
   refine ab.dF rfl rfl rfl rfl Ju 0 rfl rfl rfl rfl ?_
   refine ai ?_;refine gE ?_
   refine ab.fJ Tryz.f105 JU _ (aO.cell rfl JV Ju (j:=0) rfl rfl (aO.tmp rfl aO.nil)) (fun w' hS=>?_)
   exact ⟨hS.ext,by subst h;rfl⟩
  have h17:op≠17:=by simpa using hc
  refine gS (gS (gR ?_));refine aw bd ?_;refine ai ?_;refine gE ?_
  refine gC (fun hc=>?_) fun hc=>?_
  ·
   have h:op=18:=by simpa using hc
   refine gK ?_
   refine ab.cond rfl (fun _=>?_) (fun hc=>by exfalso;simp [h] at hc)
   refine gS (gR ?_)
   refine ab.v (ae.eN rfl rfl rfl rfl (bd122 (c:=[_,_,_,_,_,_,_]) rfl)) ?_
   refine ab.dF rfl rfl rfl rfl Ju 0 rfl rfl rfl rfl ?_
   refine ai ?_;refine gE ?_
   refine ab.fJ Tryz.f105 JU _ (aO.cell rfl JV Ju (j:=0) rfl rfl (aO.tmp rfl aO.nil)) (fun w' hS=>?_)
   exact ⟨hS.ext,by subst h;rfl⟩
  have h18:op≠18:=by simpa using hc
  refine gR ?_;refine aw bd ?_;refine ai ?_;refine gE ?_
  refine gC (fun hc=>?_) fun hc=>?_
  ·
   have h:op=20:=by simpa using hc
   refine gS (gR ?_)
   refine ab.v (ae.eN rfl rfl rfl rfl (bd122 (c:=[_,_,_,_,_,_,_]) rfl)) ?_
   refine ab.dF rfl rfl rfl rfl Ju 0 rfl rfl rfl rfl ?_
   refine ai ?_;refine gE ?_
   refine ab.fJ Tryz.f105 JU _ (aO.cell rfl JV Ju (j:=0) rfl rfl (aO.tmp rfl aO.nil)) (fun w' hS=>?_)
   exact ⟨hS.ext,by subst h;rfl⟩
  have h20:op≠20:=by simpa using hc
  refine gS (gS (gR ?_));refine aw bd ?_;refine ai ?_;refine gE ?_
  refine gC (fun hc=>?_) fun hc=>?_
  ·
   have h:op=19:=by simpa using hc
   refine gK ?_
   refine ab.cond rfl (fun _=>?_) (fun hc=>by exfalso;simp [h] at hc)
   refine gS (gR ?_)
   refine ab.v (ae.eN rfl rfl rfl rfl (bd122 (c:=[_,_,_,_,_,_,_]) rfl)) ?_
   refine ab.dF rfl rfl rfl rfl Ju 0 rfl rfl rfl rfl ?_
   refine ai ?_;refine gE ?_
   refine ab.fJ Tryz.f105 JU _ (aO.cell rfl JV Ju (j:=0) rfl rfl (aO.tmp rfl aO.nil)) (fun w' hS=>?_)
   exact ⟨hS.ext,by subst h;rfl⟩
  have h19:op≠19:=by simpa using hc
  refine gR ?_;refine aw bd ?_;refine ai ?_;refine gE ?_
  refine gC (fun hc=>?_) fun hc=>?_
  ·
   have h:op=21:=by simpa using hc
   refine gS (gR ?_)
   refine ab.v (ae.eN rfl rfl rfl rfl (bd122 (c:=[_,_,_,_,_,_,_]) rfl)) ?_
   refine ab.dF rfl rfl rfl rfl Ju 0 rfl rfl rfl rfl ?_
   refine ai ?_;refine gE ?_
   refine ab.fJ Tryz.f105 JU _ (aO.cell rfl JV Ju (j:=0) rfl rfl (aO.tmp rfl aO.nil)) (fun w' hS=>?_)
   exact ⟨hS.ext,by subst h;rfl⟩
  have h21:op≠21:=by simpa using hc
  refine gK (dO (gS (gR ?_)))
  refine ab.v (ae.eN rfl rfl rfl rfl (bd122 (c:=[_,_,_,_,_,_,_]) rfl)) ?_
  refine ab.dF rfl rfl rfl rfl Ju 0 rfl rfl rfl rfl ?_
  refine ai ?_;refine gE ?_
  refine ab.fJ Tryz.f105 JU _ (aO.cell rfl JV Ju (j:=0) rfl rfl (aO.tmp rfl aO.nil)) (fun w' hS=>?_)
  exact ⟨hS.ext,by rw [Am (by omega),vD (by omega)];rfl⟩
theorem cd (u:Bool) (x at_:Int) (w:World):Cn Tryz.prog 148 [.bool u,.int .i64 x,.int .i64 at_] w (fun v _=>v=.bool (iR u x at_)):=by
  refine Cn.of func148 rfl rfl ?_
  refine gS (gR ?_);refine ai ?_;refine gE (gS (gR ?_))
  iterate 2 refine ah ?_
  refine eC 8 (fun hc=>?_) fun hc=>?_
  ·
   have hu:u=true:=hc
   subst hu
   refine ah ?_;refine aw oT ?_;refine cF ?_;refine ah ?_
   refine eC 12 (fun hc=>?_) fun hc=>?_
   ·
    have h1:0≤x:=by simpa using hc
    iterate 2 refine ah ?_
    refine aw iX ?_;refine cF ?_;refine ah ?_
    refine eC 17 (fun hc=>?_) fun hc=>?_
    ·
     have h2:x<at_:=by simpa using hc
     iterate 6 refine cD ?_
     refine cF ?_;refine ai ?_;refine gE ?_
     refine gT func148 fun w' hS=>?_
     exact ⟨hS.ext,by simp [iR,h1,h2,j8]⟩
    have h2:¬x<at_:=by simpa using hc
    refine ah ?_;refine eZ bG ?_;refine ah ?_
    refine eC 20 (fun hc=>?_) fun hc=>?_
    ·
     simp at hc
    iterate 2 refine cD ?_
    iterate 2 refine bB ?_
    refine ai ?_;refine gE ?_
    refine gT func148 fun w' hS=>?_
    exact ⟨hS.ext,by simp [iR,h1,h2,j8]⟩
   have h1:¬0≤x:=by simpa using hc
   iterate 3 refine cD ?_
   refine bB ?_
   iterate 2 refine ah ?_
   refine eZ bG ?_;refine ah ?_
   refine eC 20 (fun hc=>?_) fun hc=>?_
   ·
    simp at hc
   iterate 2 refine cD ?_
   iterate 2 refine bB ?_
   refine ai ?_;refine gE ?_
   refine gT func148 fun w' hS=>?_
   exact ⟨hS.ext,by simp [iR,h1,j8]⟩
  have hu:u=false:=hc
  subst hu
  iterate 2 refine cD ?_
  refine bB ?_;refine ah ?_
  iterate 3 refine cD ?_
  refine bB ?_
  iterate 2 refine ah ?_
  refine eZ bG ?_;refine ah ?_
  refine eC 20 (fun hc=>?_) fun hc=>?_
  ·
   refine ah ?_;refine aw bd ?_;refine cF ?_;refine bB ?_;refine ai ?_;refine gE ?_
   refine gT func148 fun w' hS=>?_
   exact ⟨hS.ext,by simp [iR,j8]⟩
  simp at hc
theorem bS (u:Bool) (x lo hi:Int) (w:World):Cn Tryz.prog 149 [.bool u,.int .i64 x,.int .i64 lo,.int .i64 hi] w (fun v _=>v=.bool (kM u x lo hi)):=by
  refine Cn.of func149 rfl rfl ?_
  refine gS (gR ?_);refine ai ?_;refine gE (gS (gR ?_))
  iterate 2 refine ah ?_
  refine eC 10 (fun hc=>?_) fun hc=>?_
  ·
   have hu:u=true:=hc
   subst hu
   iterate 2 refine ah ?_
   refine aw iX ?_;refine ah ?_
   refine eC 14 (fun hc=>?_) fun hc=>?_
   ·
    have h1:x<lo:=by simpa using hc
    iterate 3 refine cD ?_
    iterate 2 refine cF ?_
    refine ai ?_;refine gE ?_
    refine gT func149 fun w' hS=>?_
    exact ⟨hS.ext,by simp [kM,h1,j8]⟩
   have h1:¬x<lo:=by simpa using hc
   iterate 2 refine ah ?_
   refine aw vf ?_;refine bB ?_;refine cF ?_;refine ai ?_;refine gE ?_
   refine gT func149 fun w' hS=>?_
   exact ⟨hS.ext,by simp [kM,h1,j8]⟩
  have hu:u=false:=hc
  subst hu
  iterate 8 refine cD ?_
  refine bB ?_;refine ai ?_;refine gE ?_
  refine gT func149 fun w' hS=>?_
  exact ⟨hS.ext,by simp [kM,j8]⟩
set_option maxRecDepth 4000 in
theorem qW (n:NV) (at_ fr:Int) (w:World) (hop:1≤n.op∧n.op≤21) (hX:cG n.op=false) (hY:ct n.op=false) (h3:(n.op==3)=false) (hA:pf n.op=false) (h17:(n.op==17)=false) (hG:lT n.op=false) (hU:qQ n.op=.agg #[.bool false,.bool false,.bool false,.bool false,.bool false,.bool false,.int .i64 fr]) (hK:okO n.op=true):
    Cn Tryz.prog 102 [n.v,.int .i64 at_] w (fun v _=>v=.int .i64 (aK n at_)):=by
  refine Cn.of Jt rfl rfl ?_
  refine gS (gR ?_)
  refine ab.bx rfl rfl rfl rfl (fun b2=>?_)
  refine ai ?_;refine gE (gS (gR ?_));refine al Jk Ji 0 ?_;refine aq Jj 0 ?_
  refine gP rfl rfl rfl rfl rfl call105 (fun w _ hS=>(by have:=gV n.op w;rw [hU,hK] at this;exact this)) ?_
  refine ah ?_
  iterate 2 refine fZ ?_
  refine ab.eO rfl rfl rfl (fun _=>J8 _) (fun b5=>?_)
  refine ab.dF rfl rfl rfl rfl Ju 0 rfl rfl rfl rfl ?_
  refine ai ?_;refine gE (gS (gS (gR ?_)));refine ah ?_;refine eZ bG ?_;refine gE ?_
  refine ab.cond rfl (fun hc=>by exfalso;simp at hc) (fun _=>?_)
  refine gK (gS (gS (gR ?_)));refine al Jo Jl 0 ?_;refine aq Jn 0 ?_;refine al Jk Ji 4 ?_;refine aq Jj 1 ?_;refine ah ?_
  refine gP rfl rfl rfl rfl rfl J3 (fun w _ hS=>(by exact cd false n.x at_ w)) ?_
  refine eZ bG ?_;refine ah ?_
  refine eC 23 (fun hc=>?_) fun hc=>?_
  ·
   have hb:iR (cG n.op) n.x at_=false:=by rw [hX];simpa using hc
   iterate 7 refine cD ?_
   refine cF ?_;refine gE (ab.bV rfl (gS (gR ?_)));refine ai ?_;refine gE ?_
   refine gT Jt fun w' hS=>?_
   exact ⟨hS.ext,by rw [show aK n at_=3 from iV hop hb];rfl⟩
  have hox:iR (cG n.op) n.x at_=true:=by rw [hX];simpa using hc
  refine al Jo Jl 1 ?_;refine aq Jn 0 ?_;refine al Jk Ji 5 ?_;refine aq Jj 1 ?_;refine ah ?_
  refine gP rfl rfl rfl rfl rfl J3 (fun w _ hS=>(by exact cd false n.y at_ w)) ?_
  refine eZ bG ?_;refine bB ?_;refine gE ?_
  refine gC (fun hc=>?_) fun hc=>?_
  ·
   have hb:iR (ct n.op) n.y at_=false:=by rw [hY];simpa using hc
   refine gS (gR ?_);refine ai ?_;refine gE ?_
   refine gT Jt fun w' hS=>?_
   exact ⟨hS.ext,by rw [show aK n at_=3 from iU hop hb];rfl⟩
  have hoy:iR (ct n.op) n.y at_=true:=by rw [hY];simpa using hc
  refine gK (gS (gS (gR ?_)));refine al Jo Jl 2 ?_;refine aq Jn 0 ?_;refine ah ?_;refine al Jo Jl 3 ?_;refine aq Jn 0 ?_;refine bB ?_;refine ah ?_;refine al Jo Jl 5 ?_;refine aq Jn 0 ?_;refine bB ?_;refine eZ bG ?_;refine ah ?_;refine al Jk Ji 1 ?_
  refine aq Jj 1 ?_;refine aw gJ ?_;refine cF ?_;refine ah ?_
  refine eC 48 (fun hc=>?_) fun hc=>?_
  ·
   have hb:n.i≠0:=by simpa using hc
   iterate 8 refine cD ?_
   refine cF ?_;refine ah ?_
   iterate 8 refine cD ?_
   refine cF ?_;refine gE (ab.bV rfl (gS (gR ?_)));refine ai ?_;refine gE ?_
   refine gT Jt fun w' hS=>?_
   exact ⟨hS.ext,by rw [show aK n at_=3 from (aY hop hox hoy).trans (eD (by simp [iO,bne,h3,h17,hA,hG];omega))];rfl⟩
  have hzi:n.i=0:=by simpa using hc
  refine al Jo Jl 5 ?_;refine aq Jn 0 ?_;refine eZ bG ?_;refine ah ?_;refine al Jk Ji 2 ?_;refine aq Jj 1 ?_;refine aw gJ ?_;refine cF ?_;refine bB ?_;refine ah ?_
  refine eC 58 (fun hc=>?_) fun hc=>?_
  ·
   have hb:n.e≠0:=by simpa using hc
   iterate 8 refine cD ?_
   refine cF ?_;refine gE (ab.bV rfl (gS (gR ?_)));refine ai ?_;refine gE ?_
   refine gT Jt fun w' hS=>?_
   exact ⟨hS.ext,by rw [show aK n at_=3 from (aY hop hox hoy).trans (eD (by simp [iO,bne,h3,h17,hA,hG];omega))];rfl⟩
  have hze:n.e=0:=by simpa using hc
  refine al Jo Jl 4 ?_;refine aq Jn 0 ?_;refine eZ bG ?_;refine ah ?_;refine al Jk Ji 3 ?_;refine aq Jj 1 ?_;refine aw gJ ?_;refine cF ?_;refine bB ?_;refine gE ?_
  refine gC (fun hc=>?_) fun hc=>?_
  ·
   have hb:n.g≠0:=by simpa using hc
   refine gS (gR ?_);refine ai ?_;refine gE ?_
   refine gT Jt fun w' hS=>?_
   exact ⟨hS.ext,by rw [show aK n at_=3 from (aY hop hox hoy).trans (eD (by simp [iO,bne,h3,h17,hA,hG];omega))];rfl⟩
  have hzg:n.g=0:=by simpa using hc
  have hfa:(!iO n.op && n.i !=0||n.op !=17 && n.e !=0||!lT n.op && n.g !=0)=false:=by simp [iO,bne,h3,h17,hA,hG];omega
  refine gK (gS (gR ?_));refine ai ?_;refine gE (gS (gS (gR ?_)));refine ah ?_;refine al Jo Jl 2 ?_;refine aq Jn 0 ?_;refine al Jk Ji 1 ?_;refine aq Jj 1 ?_
  refine gP rfl rfl rfl rfl rfl JB (fun w _ hS=>(by exact bS false n.i 0 7 w)) ?_
  iterate 2 refine ah ?_
  refine al Jo Jl 3 ?_;refine aq Jn 0 ?_;refine al Jk Ji 1 ?_;refine aq Jj 1 ?_
  refine gP rfl rfl rfl rfl rfl JB (fun w _ hS=>(by exact bS false n.i 0 3 w)) ?_
  refine bB ?_
  iterate 2 refine ah ?_
  refine al Jo Jl 5 ?_;refine aq Jn 0 ?_;refine al Jk Ji 1 ?_;refine aq Jj 1 ?_
  refine gP rfl rfl rfl rfl rfl JB (fun w _ hS=>(by exact bS false n.i 0 7 w)) ?_
  refine bB ?_
  iterate 2 refine ah ?_
  refine al Jo Jl 5 ?_;refine aq Jn 0 ?_;refine al Jk Ji 2 ?_;refine aq Jj 1 ?_
  refine gP rfl rfl rfl rfl rfl JB (fun w _ hS=>(by exact bS false n.e 0 7 w)) ?_
  refine bB ?_
  iterate 2 refine ah ?_
  refine al Jo Jl 4 ?_;refine aq Jn 0 ?_;refine al Jk Ji 3 ?_;refine aq Jj 1 ?_
  refine gP rfl rfl rfl rfl rfl JB (fun w _ hS=>(by exact bS false n.g 1 15 w)) ?_
  refine bB ?_;refine gE (ab.gD rfl (gK (gS (gR ?_))));refine ai ?_;refine gE ?_
  refine gT Jt fun w' hS=>?_
  exact ⟨hS.ext,by rw [show aK n at_=0 from (aY hop hox hoy).trans (kH hfa (by simp [h3,h17,hA,hG]))];rfl⟩
set_option maxRecDepth 4000 in
theorem wN (n:NV) (at_ fr:Int) (w:World) (hop:1≤n.op∧n.op≤21) (hX:cG n.op=false) (hY:ct n.op=false) (h3:(n.op==3)=true) (hA:pf n.op=false) (h17:(n.op==17)=false) (hG:lT n.op=false) (hU:qQ n.op=.agg #[.bool false,.bool false,.bool true,.bool false,.bool false,.bool false,.int .i64 fr]) (hK:okO n.op=true):
    Cn Tryz.prog 102 [n.v,.int .i64 at_] w (fun v _=>v=.int .i64 (aK n at_)):=by
  refine Cn.of Jt rfl rfl ?_
  refine gS (gR ?_)
  refine ab.bx rfl rfl rfl rfl (fun b2=>?_)
  refine ai ?_;refine gE (gS (gR ?_));refine al Jk Ji 0 ?_;refine aq Jj 0 ?_
  refine gP rfl rfl rfl rfl rfl call105 (fun w _ hS=>(by have:=gV n.op w;rw [hU,hK] at this;exact this)) ?_
  refine ah ?_
  iterate 2 refine fZ ?_
  refine ab.eO rfl rfl rfl (fun _=>J8 _) (fun b5=>?_)
  refine ab.dF rfl rfl rfl rfl Ju 0 rfl rfl rfl rfl ?_
  refine ai ?_;refine gE (gS (gS (gR ?_)));refine ah ?_;refine eZ bG ?_;refine gE ?_
  refine ab.cond rfl (fun hc=>by exfalso;simp at hc) (fun _=>?_)
  refine gK (gS (gS (gR ?_)));refine al Jo Jl 0 ?_;refine aq Jn 0 ?_;refine al Jk Ji 4 ?_;refine aq Jj 1 ?_;refine ah ?_
  refine gP rfl rfl rfl rfl rfl J3 (fun w _ hS=>(by exact cd false n.x at_ w)) ?_
  refine eZ bG ?_;refine ah ?_
  refine eC 23 (fun hc=>?_) fun hc=>?_
  ·
   have hb:iR (cG n.op) n.x at_=false:=by rw [hX];simpa using hc
   iterate 7 refine cD ?_
   refine cF ?_;refine gE (ab.bV rfl (gS (gR ?_)));refine ai ?_;refine gE ?_
   refine gT Jt fun w' hS=>?_
   exact ⟨hS.ext,by rw [show aK n at_=3 from iV hop hb];rfl⟩
  have hox:iR (cG n.op) n.x at_=true:=by rw [hX];simpa using hc
  refine al Jo Jl 1 ?_;refine aq Jn 0 ?_;refine al Jk Ji 5 ?_;refine aq Jj 1 ?_;refine ah ?_
  refine gP rfl rfl rfl rfl rfl J3 (fun w _ hS=>(by exact cd false n.y at_ w)) ?_
  refine eZ bG ?_;refine bB ?_;refine gE ?_
  refine gC (fun hc=>?_) fun hc=>?_
  ·
   have hb:iR (ct n.op) n.y at_=false:=by rw [hY];simpa using hc
   refine gS (gR ?_);refine ai ?_;refine gE ?_
   refine gT Jt fun w' hS=>?_
   exact ⟨hS.ext,by rw [show aK n at_=3 from iU hop hb];rfl⟩
  have hoy:iR (ct n.op) n.y at_=true:=by rw [hY];simpa using hc
  refine gK (gS (gS (gR ?_)));refine al Jo Jl 2 ?_;refine aq Jn 0 ?_;refine ah ?_
  iterate 2 refine cD ?_
  refine cF ?_;refine ah ?_
  iterate 2 refine cD ?_
  refine cF ?_;refine eZ bG ?_;refine ah ?_
  iterate 3 refine cD ?_
  refine bB ?_;refine ah ?_;refine al Jo Jl 5 ?_;refine aq Jn 0 ?_;refine eZ bG ?_;refine ah ?_;refine al Jk Ji 2 ?_;refine aq Jj 1 ?_;refine aw gJ ?_;refine cF ?_;refine bB ?_;refine ah ?_
  refine eC 58 (fun hc=>?_) fun hc=>?_
  ·
   have hb:n.e≠0:=by simpa using hc
   iterate 8 refine cD ?_
   refine cF ?_;refine gE (ab.bV rfl (gS (gR ?_)));refine ai ?_;refine gE ?_
   refine gT Jt fun w' hS=>?_
   exact ⟨hS.ext,by rw [show aK n at_=3 from (aY hop hox hoy).trans (eD (by simp [iO,bne,h3,h17,hA,hG];omega))];rfl⟩
  have hze:n.e=0:=by simpa using hc
  refine al Jo Jl 4 ?_;refine aq Jn 0 ?_;refine eZ bG ?_;refine ah ?_;refine al Jk Ji 3 ?_;refine aq Jj 1 ?_;refine aw gJ ?_;refine cF ?_;refine bB ?_;refine gE ?_
  refine gC (fun hc=>?_) fun hc=>?_
  ·
   have hb:n.g≠0:=by simpa using hc
   refine gS (gR ?_);refine ai ?_;refine gE ?_
   refine gT Jt fun w' hS=>?_
   exact ⟨hS.ext,by rw [show aK n at_=3 from (aY hop hox hoy).trans (eD (by simp [iO,bne,h3,h17,hA,hG];omega))];rfl⟩
  have hzg:n.g=0:=by simpa using hc
  have hfa:(!iO n.op && n.i !=0||n.op !=17 && n.e !=0||!lT n.op && n.g !=0)=false:=by simp [iO,bne,h3,h17,hA,hG];omega
  refine gK (gS (gR ?_));refine ai ?_;refine gE (gS (gS (gR ?_)));refine ah ?_;refine al Jo Jl 2 ?_;refine aq Jn 0 ?_;refine al Jk Ji 1 ?_;refine aq Jj 1 ?_
  refine gP rfl rfl rfl rfl rfl JB (fun w _ hS=>(by exact bS true n.i 0 7 w)) ?_
  refine ah ?_
  refine eC 74 (fun hc=>?_) fun hc=>?_
  ·
   have hb:n.i<0∨7<n.i:=by simpa [kM] using hc
   iterate 6 refine cD ?_
   refine cF ?_;refine ah ?_
   iterate 6 refine cD ?_
   refine cF ?_;refine ah ?_
   iterate 6 refine cD ?_
   refine cF ?_;refine ah ?_
   iterate 6 refine cD ?_
   refine cF ?_;refine gE (ab.bV rfl (gS (gR ?_)));refine ai ?_;refine gE ?_
   refine gT Jt fun w' hS=>?_
   exact ⟨hS.ext,by rw [show aK n at_=2 from (aY hop hox hoy).trans (mr hfa (by simp [h3,h17,hA,hG];omega))];rfl⟩
  have hr3:0≤n.i∧n.i≤7:=by simpa [kM] using hc
  refine ah ?_;refine al Jo Jl 3 ?_;refine aq Jn 0 ?_;refine al Jk Ji 1 ?_;refine aq Jj 1 ?_
  refine gP rfl rfl rfl rfl rfl JB (fun w _ hS=>(by exact bS false n.i 0 3 w)) ?_
  refine bB ?_
  iterate 2 refine ah ?_
  refine al Jo Jl 5 ?_;refine aq Jn 0 ?_;refine al Jk Ji 1 ?_;refine aq Jj 1 ?_
  refine gP rfl rfl rfl rfl rfl JB (fun w _ hS=>(by exact bS false n.i 0 7 w)) ?_
  refine bB ?_
  iterate 2 refine ah ?_
  refine al Jo Jl 5 ?_;refine aq Jn 0 ?_;refine al Jk Ji 2 ?_;refine aq Jj 1 ?_
  refine gP rfl rfl rfl rfl rfl JB (fun w _ hS=>(by exact bS false n.e 0 7 w)) ?_
  refine bB ?_
  iterate 2 refine ah ?_
  refine al Jo Jl 4 ?_;refine aq Jn 0 ?_;refine al Jk Ji 3 ?_;refine aq Jj 1 ?_
  refine gP rfl rfl rfl rfl rfl JB (fun w _ hS=>(by exact bS false n.g 1 15 w)) ?_
  refine bB ?_;refine gE (ab.gD rfl (gK (gS (gR ?_))));refine ai ?_;refine gE ?_
  refine gT Jt fun w' hS=>?_
  exact ⟨hS.ext,by rw [show aK n at_=0 from (aY hop hox hoy).trans (kH hfa (by simp [h3,h17,hA,hG];omega))];rfl⟩
set_option maxRecDepth 4000 in
theorem pL (n:NV) (at_ fr:Int) (w:World) (hop:1≤n.op∧n.op≤21) (hX:cG n.op=true) (hY:ct n.op=false) (h3:(n.op==3)=false) (hA:pf n.op=false) (h17:(n.op==17)=false) (hG:lT n.op=false) (hU:qQ n.op=.agg #[.bool true,.bool false,.bool false,.bool false,.bool false,.bool false,.int .i64 fr]) (hK:okO n.op=true):
    Cn Tryz.prog 102 [n.v,.int .i64 at_] w (fun v _=>v=.int .i64 (aK n at_)):=by
  refine Cn.of Jt rfl rfl ?_
  refine gS (gR ?_)
  refine ab.bx rfl rfl rfl rfl (fun b2=>?_)
  refine ai ?_;refine gE (gS (gR ?_));refine al Jk Ji 0 ?_;refine aq Jj 0 ?_
  refine gP rfl rfl rfl rfl rfl call105 (fun w _ hS=>(by have:=gV n.op w;rw [hU,hK] at this;exact this)) ?_
  refine ah ?_
  iterate 2 refine fZ ?_
  refine ab.eO rfl rfl rfl (fun _=>J8 _) (fun b5=>?_)
  refine ab.dF rfl rfl rfl rfl Ju 0 rfl rfl rfl rfl ?_
  refine ai ?_;refine gE (gS (gS (gR ?_)));refine ah ?_;refine eZ bG ?_;refine gE ?_
  refine ab.cond rfl (fun hc=>by exfalso;simp at hc) (fun _=>?_)
  refine gK (gS (gS (gR ?_)));refine al Jo Jl 0 ?_;refine aq Jn 0 ?_;refine al Jk Ji 4 ?_;refine aq Jj 1 ?_;refine ah ?_
  refine gP rfl rfl rfl rfl rfl J3 (fun w _ hS=>(by exact cd true n.x at_ w)) ?_
  refine eZ bG ?_;refine ah ?_
  refine eC 23 (fun hc=>?_) fun hc=>?_
  ·
   have hb:iR (cG n.op) n.x at_=false:=by rw [hX];simpa using hc
   iterate 7 refine cD ?_
   refine cF ?_;refine gE (ab.bV rfl (gS (gR ?_)));refine ai ?_;refine gE ?_
   refine gT Jt fun w' hS=>?_
   exact ⟨hS.ext,by rw [show aK n at_=3 from iV hop hb];rfl⟩
  have hox:iR (cG n.op) n.x at_=true:=by rw [hX];simpa using hc
  refine al Jo Jl 1 ?_;refine aq Jn 0 ?_;refine al Jk Ji 5 ?_;refine aq Jj 1 ?_;refine ah ?_
  refine gP rfl rfl rfl rfl rfl J3 (fun w _ hS=>(by exact cd false n.y at_ w)) ?_
  refine eZ bG ?_;refine bB ?_;refine gE ?_
  refine gC (fun hc=>?_) fun hc=>?_
  ·
   have hb:iR (ct n.op) n.y at_=false:=by rw [hY];simpa using hc
   refine gS (gR ?_);refine ai ?_;refine gE ?_
   refine gT Jt fun w' hS=>?_
   exact ⟨hS.ext,by rw [show aK n at_=3 from iU hop hb];rfl⟩
  have hoy:iR (ct n.op) n.y at_=true:=by rw [hY];simpa using hc
  refine gK (gS (gS (gR ?_)));refine al Jo Jl 2 ?_;refine aq Jn 0 ?_;refine ah ?_;refine al Jo Jl 3 ?_;refine aq Jn 0 ?_;refine bB ?_;refine ah ?_;refine al Jo Jl 5 ?_;refine aq Jn 0 ?_;refine bB ?_;refine eZ bG ?_;refine ah ?_;refine al Jk Ji 1 ?_
  refine aq Jj 1 ?_;refine aw gJ ?_;refine cF ?_;refine ah ?_
  refine eC 48 (fun hc=>?_) fun hc=>?_
  ·
   have hb:n.i≠0:=by simpa using hc
   iterate 8 refine cD ?_
   refine cF ?_;refine ah ?_
   iterate 8 refine cD ?_
   refine cF ?_;refine gE (ab.bV rfl (gS (gR ?_)));refine ai ?_;refine gE ?_
   refine gT Jt fun w' hS=>?_
   exact ⟨hS.ext,by rw [show aK n at_=3 from (aY hop hox hoy).trans (eD (by simp [iO,bne,h3,h17,hA,hG];omega))];rfl⟩
  have hzi:n.i=0:=by simpa using hc
  refine al Jo Jl 5 ?_;refine aq Jn 0 ?_;refine eZ bG ?_;refine ah ?_;refine al Jk Ji 2 ?_;refine aq Jj 1 ?_;refine aw gJ ?_;refine cF ?_;refine bB ?_;refine ah ?_
  refine eC 58 (fun hc=>?_) fun hc=>?_
  ·
   have hb:n.e≠0:=by simpa using hc
   iterate 8 refine cD ?_
   refine cF ?_;refine gE (ab.bV rfl (gS (gR ?_)));refine ai ?_;refine gE ?_
   refine gT Jt fun w' hS=>?_
   exact ⟨hS.ext,by rw [show aK n at_=3 from (aY hop hox hoy).trans (eD (by simp [iO,bne,h3,h17,hA,hG];omega))];rfl⟩
  have hze:n.e=0:=by simpa using hc
  refine al Jo Jl 4 ?_;refine aq Jn 0 ?_;refine eZ bG ?_;refine ah ?_;refine al Jk Ji 3 ?_;refine aq Jj 1 ?_;refine aw gJ ?_;refine cF ?_;refine bB ?_;refine gE ?_
  refine gC (fun hc=>?_) fun hc=>?_
  ·
   have hb:n.g≠0:=by simpa using hc
   refine gS (gR ?_);refine ai ?_;refine gE ?_
   refine gT Jt fun w' hS=>?_
   exact ⟨hS.ext,by rw [show aK n at_=3 from (aY hop hox hoy).trans (eD (by simp [iO,bne,h3,h17,hA,hG];omega))];rfl⟩
  have hzg:n.g=0:=by simpa using hc
  have hfa:(!iO n.op && n.i !=0||n.op !=17 && n.e !=0||!lT n.op && n.g !=0)=false:=by simp [iO,bne,h3,h17,hA,hG];omega
  refine gK (gS (gR ?_));refine ai ?_;refine gE (gS (gS (gR ?_)));refine ah ?_;refine al Jo Jl 2 ?_;refine aq Jn 0 ?_;refine al Jk Ji 1 ?_;refine aq Jj 1 ?_
  refine gP rfl rfl rfl rfl rfl JB (fun w _ hS=>(by exact bS false n.i 0 7 w)) ?_
  iterate 2 refine ah ?_
  refine al Jo Jl 3 ?_;refine aq Jn 0 ?_;refine al Jk Ji 1 ?_;refine aq Jj 1 ?_
  refine gP rfl rfl rfl rfl rfl JB (fun w _ hS=>(by exact bS false n.i 0 3 w)) ?_
  refine bB ?_
  iterate 2 refine ah ?_
  refine al Jo Jl 5 ?_;refine aq Jn 0 ?_;refine al Jk Ji 1 ?_;refine aq Jj 1 ?_
  refine gP rfl rfl rfl rfl rfl JB (fun w _ hS=>(by exact bS false n.i 0 7 w)) ?_
  refine bB ?_
  iterate 2 refine ah ?_
  refine al Jo Jl 5 ?_;refine aq Jn 0 ?_;refine al Jk Ji 2 ?_;refine aq Jj 1 ?_
  refine gP rfl rfl rfl rfl rfl JB (fun w _ hS=>(by exact bS false n.e 0 7 w)) ?_
  refine bB ?_
  iterate 2 refine ah ?_
  refine al Jo Jl 4 ?_;refine aq Jn 0 ?_;refine al Jk Ji 3 ?_;refine aq Jj 1 ?_
  refine gP rfl rfl rfl rfl rfl JB (fun w _ hS=>(by exact bS false n.g 1 15 w)) ?_
  refine bB ?_;refine gE (ab.gD rfl (gK (gS (gR ?_))));refine ai ?_;refine gE ?_
  refine gT Jt fun w' hS=>?_
  exact ⟨hS.ext,by rw [show aK n at_=0 from (aY hop hox hoy).trans (kH hfa (by simp [h3,h17,hA,hG]))];rfl⟩
set_option maxRecDepth 4000 in
theorem jl (n:NV) (at_ fr:Int) (w:World) (hop:1≤n.op∧n.op≤21) (hX:cG n.op=true) (hY:ct n.op=true) (h3:(n.op==3)=false) (hA:pf n.op=false) (h17:(n.op==17)=false) (hG:lT n.op=false) (hU:qQ n.op=.agg #[.bool true,.bool true,.bool false,.bool false,.bool false,.bool false,.int .i64 fr]) (hK:okO n.op=true):
    Cn Tryz.prog 102 [n.v,.int .i64 at_] w (fun v _=>v=.int .i64 (aK n at_)):=by
  refine Cn.of Jt rfl rfl ?_
  refine gS (gR ?_)
  refine ab.bx rfl rfl rfl rfl (fun b2=>?_)
  refine ai ?_;refine gE (gS (gR ?_));refine al Jk Ji 0 ?_;refine aq Jj 0 ?_
  refine gP rfl rfl rfl rfl rfl call105 (fun w _ hS=>(by have:=gV n.op w;rw [hU,hK] at this;exact this)) ?_
  refine ah ?_
  iterate 2 refine fZ ?_
  refine ab.eO rfl rfl rfl (fun _=>J8 _) (fun b5=>?_)
  refine ab.dF rfl rfl rfl rfl Ju 0 rfl rfl rfl rfl ?_
  refine ai ?_;refine gE (gS (gS (gR ?_)));refine ah ?_;refine eZ bG ?_;refine gE ?_
  refine ab.cond rfl (fun hc=>by exfalso;simp at hc) (fun _=>?_)
  refine gK (gS (gS (gR ?_)));refine al Jo Jl 0 ?_;refine aq Jn 0 ?_;refine al Jk Ji 4 ?_;refine aq Jj 1 ?_;refine ah ?_
  refine gP rfl rfl rfl rfl rfl J3 (fun w _ hS=>(by exact cd true n.x at_ w)) ?_
  refine eZ bG ?_;refine ah ?_
  refine eC 23 (fun hc=>?_) fun hc=>?_
  ·
   have hb:iR (cG n.op) n.x at_=false:=by rw [hX];simpa using hc
   iterate 7 refine cD ?_
   refine cF ?_;refine gE (ab.bV rfl (gS (gR ?_)));refine ai ?_;refine gE ?_
   refine gT Jt fun w' hS=>?_
   exact ⟨hS.ext,by rw [show aK n at_=3 from iV hop hb];rfl⟩
  have hox:iR (cG n.op) n.x at_=true:=by rw [hX];simpa using hc
  refine al Jo Jl 1 ?_;refine aq Jn 0 ?_;refine al Jk Ji 5 ?_;refine aq Jj 1 ?_;refine ah ?_
  refine gP rfl rfl rfl rfl rfl J3 (fun w _ hS=>(by exact cd true n.y at_ w)) ?_
  refine eZ bG ?_;refine bB ?_;refine gE ?_
  refine gC (fun hc=>?_) fun hc=>?_
  ·
   have hb:iR (ct n.op) n.y at_=false:=by rw [hY];simpa using hc
   refine gS (gR ?_);refine ai ?_;refine gE ?_
   refine gT Jt fun w' hS=>?_
   exact ⟨hS.ext,by rw [show aK n at_=3 from iU hop hb];rfl⟩
  have hoy:iR (ct n.op) n.y at_=true:=by rw [hY];simpa using hc
  refine gK (gS (gS (gR ?_)));refine al Jo Jl 2 ?_;refine aq Jn 0 ?_;refine ah ?_;refine al Jo Jl 3 ?_;refine aq Jn 0 ?_;refine bB ?_;refine ah ?_;refine al Jo Jl 5 ?_;refine aq Jn 0 ?_;refine bB ?_;refine eZ bG ?_;refine ah ?_;refine al Jk Ji 1 ?_
  refine aq Jj 1 ?_;refine aw gJ ?_;refine cF ?_;refine ah ?_
  refine eC 48 (fun hc=>?_) fun hc=>?_
  ·
   have hb:n.i≠0:=by simpa using hc
   iterate 8 refine cD ?_
   refine cF ?_;refine ah ?_
   iterate 8 refine cD ?_
   refine cF ?_;refine gE (ab.bV rfl (gS (gR ?_)));refine ai ?_;refine gE ?_
   refine gT Jt fun w' hS=>?_
   exact ⟨hS.ext,by rw [show aK n at_=3 from (aY hop hox hoy).trans (eD (by simp [iO,bne,h3,h17,hA,hG];omega))];rfl⟩
  have hzi:n.i=0:=by simpa using hc
  refine al Jo Jl 5 ?_;refine aq Jn 0 ?_;refine eZ bG ?_;refine ah ?_;refine al Jk Ji 2 ?_;refine aq Jj 1 ?_;refine aw gJ ?_;refine cF ?_;refine bB ?_;refine ah ?_
  refine eC 58 (fun hc=>?_) fun hc=>?_
  ·
   have hb:n.e≠0:=by simpa using hc
   iterate 8 refine cD ?_
   refine cF ?_;refine gE (ab.bV rfl (gS (gR ?_)));refine ai ?_;refine gE ?_
   refine gT Jt fun w' hS=>?_
   exact ⟨hS.ext,by rw [show aK n at_=3 from (aY hop hox hoy).trans (eD (by simp [iO,bne,h3,h17,hA,hG];omega))];rfl⟩
  have hze:n.e=0:=by simpa using hc
  refine al Jo Jl 4 ?_;refine aq Jn 0 ?_;refine eZ bG ?_;refine ah ?_;refine al Jk Ji 3 ?_;refine aq Jj 1 ?_;refine aw gJ ?_;refine cF ?_;refine bB ?_;refine gE ?_
  refine gC (fun hc=>?_) fun hc=>?_
  ·
   have hb:n.g≠0:=by simpa using hc
   refine gS (gR ?_);refine ai ?_;refine gE ?_
   refine gT Jt fun w' hS=>?_
   exact ⟨hS.ext,by rw [show aK n at_=3 from (aY hop hox hoy).trans (eD (by simp [iO,bne,h3,h17,hA,hG];omega))];rfl⟩
  have hzg:n.g=0:=by simpa using hc
  have hfa:(!iO n.op && n.i !=0||n.op !=17 && n.e !=0||!lT n.op && n.g !=0)=false:=by simp [iO,bne,h3,h17,hA,hG];omega
  refine gK (gS (gR ?_));refine ai ?_;refine gE (gS (gS (gR ?_)));refine ah ?_;refine al Jo Jl 2 ?_;refine aq Jn 0 ?_;refine al Jk Ji 1 ?_;refine aq Jj 1 ?_
  refine gP rfl rfl rfl rfl rfl JB (fun w _ hS=>(by exact bS false n.i 0 7 w)) ?_
  iterate 2 refine ah ?_
  refine al Jo Jl 3 ?_;refine aq Jn 0 ?_;refine al Jk Ji 1 ?_;refine aq Jj 1 ?_
  refine gP rfl rfl rfl rfl rfl JB (fun w _ hS=>(by exact bS false n.i 0 3 w)) ?_
  refine bB ?_
  iterate 2 refine ah ?_
  refine al Jo Jl 5 ?_;refine aq Jn 0 ?_;refine al Jk Ji 1 ?_;refine aq Jj 1 ?_
  refine gP rfl rfl rfl rfl rfl JB (fun w _ hS=>(by exact bS false n.i 0 7 w)) ?_
  refine bB ?_
  iterate 2 refine ah ?_
  refine al Jo Jl 5 ?_;refine aq Jn 0 ?_;refine al Jk Ji 2 ?_;refine aq Jj 1 ?_
  refine gP rfl rfl rfl rfl rfl JB (fun w _ hS=>(by exact bS false n.e 0 7 w)) ?_
  refine bB ?_
  iterate 2 refine ah ?_
  refine al Jo Jl 4 ?_;refine aq Jn 0 ?_;refine al Jk Ji 3 ?_;refine aq Jj 1 ?_
  refine gP rfl rfl rfl rfl rfl JB (fun w _ hS=>(by exact bS false n.g 1 15 w)) ?_
  refine bB ?_;refine gE (ab.gD rfl (gK (gS (gR ?_))));refine ai ?_;refine gE ?_
  refine gT Jt fun w' hS=>?_
  exact ⟨hS.ext,by rw [show aK n at_=0 from (aY hop hox hoy).trans (kH hfa (by simp [h3,h17,hA,hG]))];rfl⟩
set_option maxRecDepth 4000 in
theorem nS (n:NV) (at_ fr:Int) (w:World) (hop:1≤n.op∧n.op≤21) (hX:cG n.op=true) (hY:ct n.op=false) (h3:(n.op==3)=false) (hA:pf n.op=true) (h17:(n.op==17)=false) (hG:lT n.op=false) (hU:qQ n.op=.agg #[.bool true,.bool false,.bool false,.bool true,.bool false,.bool false,.int .i64 fr]) (hK:okO n.op=true):
    Cn Tryz.prog 102 [n.v,.int .i64 at_] w (fun v _=>v=.int .i64 (aK n at_)):=by
  refine Cn.of Jt rfl rfl ?_
  refine gS (gR ?_)
  refine ab.bx rfl rfl rfl rfl (fun b2=>?_)
  refine ai ?_;refine gE (gS (gR ?_));refine al Jk Ji 0 ?_;refine aq Jj 0 ?_
  refine gP rfl rfl rfl rfl rfl call105 (fun w _ hS=>(by have:=gV n.op w;rw [hU,hK] at this;exact this)) ?_
  refine ah ?_
  iterate 2 refine fZ ?_
  refine ab.eO rfl rfl rfl (fun _=>J8 _) (fun b5=>?_)
  refine ab.dF rfl rfl rfl rfl Ju 0 rfl rfl rfl rfl ?_
  refine ai ?_;refine gE (gS (gS (gR ?_)));refine ah ?_;refine eZ bG ?_;refine gE ?_
  refine ab.cond rfl (fun hc=>by exfalso;simp at hc) (fun _=>?_)
  refine gK (gS (gS (gR ?_)));refine al Jo Jl 0 ?_;refine aq Jn 0 ?_;refine al Jk Ji 4 ?_;refine aq Jj 1 ?_;refine ah ?_
  refine gP rfl rfl rfl rfl rfl J3 (fun w _ hS=>(by exact cd true n.x at_ w)) ?_
  refine eZ bG ?_;refine ah ?_
  refine eC 23 (fun hc=>?_) fun hc=>?_
  ·
   have hb:iR (cG n.op) n.x at_=false:=by rw [hX];simpa using hc
   iterate 7 refine cD ?_
   refine cF ?_;refine gE (ab.bV rfl (gS (gR ?_)));refine ai ?_;refine gE ?_
   refine gT Jt fun w' hS=>?_
   exact ⟨hS.ext,by rw [show aK n at_=3 from iV hop hb];rfl⟩
  have hox:iR (cG n.op) n.x at_=true:=by rw [hX];simpa using hc
  refine al Jo Jl 1 ?_;refine aq Jn 0 ?_;refine al Jk Ji 5 ?_;refine aq Jj 1 ?_;refine ah ?_
  refine gP rfl rfl rfl rfl rfl J3 (fun w _ hS=>(by exact cd false n.y at_ w)) ?_
  refine eZ bG ?_;refine bB ?_;refine gE ?_
  refine gC (fun hc=>?_) fun hc=>?_
  ·
   have hb:iR (ct n.op) n.y at_=false:=by rw [hY];simpa using hc
   refine gS (gR ?_);refine ai ?_;refine gE ?_
   refine gT Jt fun w' hS=>?_
   exact ⟨hS.ext,by rw [show aK n at_=3 from iU hop hb];rfl⟩
  have hoy:iR (ct n.op) n.y at_=true:=by rw [hY];simpa using hc
  refine gK (gS (gS (gR ?_)));refine al Jo Jl 2 ?_;refine aq Jn 0 ?_;refine ah ?_;refine al Jo Jl 3 ?_;refine aq Jn 0 ?_;refine bB ?_;refine ah ?_
  iterate 2 refine cD ?_
  refine cF ?_;refine eZ bG ?_;refine ah ?_
  iterate 3 refine cD ?_
  refine bB ?_;refine ah ?_;refine al Jo Jl 5 ?_;refine aq Jn 0 ?_;refine eZ bG ?_;refine ah ?_;refine al Jk Ji 2 ?_;refine aq Jj 1 ?_;refine aw gJ ?_;refine cF ?_;refine bB ?_;refine ah ?_
  refine eC 58 (fun hc=>?_) fun hc=>?_
  ·
   have hb:n.e≠0:=by simpa using hc
   iterate 8 refine cD ?_
   refine cF ?_;refine gE (ab.bV rfl (gS (gR ?_)));refine ai ?_;refine gE ?_
   refine gT Jt fun w' hS=>?_
   exact ⟨hS.ext,by rw [show aK n at_=3 from (aY hop hox hoy).trans (eD (by simp [iO,bne,h3,h17,hA,hG];omega))];rfl⟩
  have hze:n.e=0:=by simpa using hc
  refine al Jo Jl 4 ?_;refine aq Jn 0 ?_;refine eZ bG ?_;refine ah ?_;refine al Jk Ji 3 ?_;refine aq Jj 1 ?_;refine aw gJ ?_;refine cF ?_;refine bB ?_;refine gE ?_
  refine gC (fun hc=>?_) fun hc=>?_
  ·
   have hb:n.g≠0:=by simpa using hc
   refine gS (gR ?_);refine ai ?_;refine gE ?_
   refine gT Jt fun w' hS=>?_
   exact ⟨hS.ext,by rw [show aK n at_=3 from (aY hop hox hoy).trans (eD (by simp [iO,bne,h3,h17,hA,hG];omega))];rfl⟩
  have hzg:n.g=0:=by simpa using hc
  have hfa:(!iO n.op && n.i !=0||n.op !=17 && n.e !=0||!lT n.op && n.g !=0)=false:=by simp [iO,bne,h3,h17,hA,hG];omega
  refine gK (gS (gR ?_));refine ai ?_;refine gE (gS (gS (gR ?_)));refine ah ?_;refine al Jo Jl 2 ?_;refine aq Jn 0 ?_;refine al Jk Ji 1 ?_;refine aq Jj 1 ?_
  refine gP rfl rfl rfl rfl rfl JB (fun w _ hS=>(by exact bS false n.i 0 7 w)) ?_
  iterate 2 refine ah ?_
  refine al Jo Jl 3 ?_;refine aq Jn 0 ?_;refine al Jk Ji 1 ?_;refine aq Jj 1 ?_
  refine gP rfl rfl rfl rfl rfl JB (fun w _ hS=>(by exact bS true n.i 0 3 w)) ?_
  refine bB ?_;refine ah ?_
  refine eC 82 (fun hc=>?_) fun hc=>?_
  ·
   have hb:n.i<0∨3<n.i:=by simpa [kM] using hc
   iterate 6 refine cD ?_
   refine cF ?_;refine ah ?_
   iterate 6 refine cD ?_
   refine cF ?_;refine ah ?_
   iterate 6 refine cD ?_
   refine cF ?_;refine gE (ab.bV rfl (gS (gR ?_)));refine ai ?_;refine gE ?_
   refine gT Jt fun w' hS=>?_
   exact ⟨hS.ext,by rw [show aK n at_=2 from (aY hop hox hoy).trans (mr hfa (by simp [h3,h17,hA,hG];omega))];rfl⟩
  have hrA:0≤n.i∧n.i≤3:=by simpa [kM] using hc
  refine ah ?_;refine al Jo Jl 5 ?_;refine aq Jn 0 ?_;refine al Jk Ji 1 ?_;refine aq Jj 1 ?_
  refine gP rfl rfl rfl rfl rfl JB (fun w _ hS=>(by exact bS false n.i 0 7 w)) ?_
  refine bB ?_
  iterate 2 refine ah ?_
  refine al Jo Jl 5 ?_;refine aq Jn 0 ?_;refine al Jk Ji 2 ?_;refine aq Jj 1 ?_
  refine gP rfl rfl rfl rfl rfl JB (fun w _ hS=>(by exact bS false n.e 0 7 w)) ?_
  refine bB ?_
  iterate 2 refine ah ?_
  refine al Jo Jl 4 ?_;refine aq Jn 0 ?_;refine al Jk Ji 3 ?_;refine aq Jj 1 ?_
  refine gP rfl rfl rfl rfl rfl JB (fun w _ hS=>(by exact bS false n.g 1 15 w)) ?_
  refine bB ?_;refine gE (ab.gD rfl (gK (gS (gR ?_))));refine ai ?_;refine gE ?_
  refine gT Jt fun w' hS=>?_
  exact ⟨hS.ext,by rw [show aK n at_=0 from (aY hop hox hoy).trans (kH hfa (by simp [h3,h17,hA,hG];omega))];rfl⟩
set_option maxRecDepth 4000 in
theorem tj (n:NV) (at_ fr:Int) (w:World) (hop:1≤n.op∧n.op≤21) (hX:cG n.op=true) (hY:ct n.op=false) (h3:(n.op==3)=false) (hA:pf n.op=false) (h17:(n.op==17)=false) (hG:lT n.op=true) (hU:qQ n.op=.agg #[.bool true,.bool false,.bool false,.bool false,.bool true,.bool false,.int .i64 fr]) (hK:okO n.op=true):
    Cn Tryz.prog 102 [n.v,.int .i64 at_] w (fun v _=>v=.int .i64 (aK n at_)):=by
  refine Cn.of Jt rfl rfl ?_
  refine gS (gR ?_)
  refine ab.bx rfl rfl rfl rfl (fun b2=>?_)
  refine ai ?_;refine gE (gS (gR ?_));refine al Jk Ji 0 ?_;refine aq Jj 0 ?_
  refine gP rfl rfl rfl rfl rfl call105 (fun w _ hS=>(by have:=gV n.op w;rw [hU,hK] at this;exact this)) ?_
  refine ah ?_
  iterate 2 refine fZ ?_
  refine ab.eO rfl rfl rfl (fun _=>J8 _) (fun b5=>?_)
  refine ab.dF rfl rfl rfl rfl Ju 0 rfl rfl rfl rfl ?_
  refine ai ?_;refine gE (gS (gS (gR ?_)));refine ah ?_;refine eZ bG ?_;refine gE ?_
  refine ab.cond rfl (fun hc=>by exfalso;simp at hc) (fun _=>?_)
  refine gK (gS (gS (gR ?_)));refine al Jo Jl 0 ?_;refine aq Jn 0 ?_;refine al Jk Ji 4 ?_;refine aq Jj 1 ?_;refine ah ?_
  refine gP rfl rfl rfl rfl rfl J3 (fun w _ hS=>(by exact cd true n.x at_ w)) ?_
  refine eZ bG ?_;refine ah ?_
  refine eC 23 (fun hc=>?_) fun hc=>?_
  ·
   have hb:iR (cG n.op) n.x at_=false:=by rw [hX];simpa using hc
   iterate 7 refine cD ?_
   refine cF ?_;refine gE (ab.bV rfl (gS (gR ?_)));refine ai ?_;refine gE ?_
   refine gT Jt fun w' hS=>?_
   exact ⟨hS.ext,by rw [show aK n at_=3 from iV hop hb];rfl⟩
  have hox:iR (cG n.op) n.x at_=true:=by rw [hX];simpa using hc
  refine al Jo Jl 1 ?_;refine aq Jn 0 ?_;refine al Jk Ji 5 ?_;refine aq Jj 1 ?_;refine ah ?_
  refine gP rfl rfl rfl rfl rfl J3 (fun w _ hS=>(by exact cd false n.y at_ w)) ?_
  refine eZ bG ?_;refine bB ?_;refine gE ?_
  refine gC (fun hc=>?_) fun hc=>?_
  ·
   have hb:iR (ct n.op) n.y at_=false:=by rw [hY];simpa using hc
   refine gS (gR ?_);refine ai ?_;refine gE ?_
   refine gT Jt fun w' hS=>?_
   exact ⟨hS.ext,by rw [show aK n at_=3 from iU hop hb];rfl⟩
  have hoy:iR (ct n.op) n.y at_=true:=by rw [hY];simpa using hc
  refine gK (gS (gS (gR ?_)));refine al Jo Jl 2 ?_;refine aq Jn 0 ?_;refine ah ?_;refine al Jo Jl 3 ?_;refine aq Jn 0 ?_;refine bB ?_;refine ah ?_;refine al Jo Jl 5 ?_;refine aq Jn 0 ?_;refine bB ?_;refine eZ bG ?_;refine ah ?_;refine al Jk Ji 1 ?_
  refine aq Jj 1 ?_;refine aw gJ ?_;refine cF ?_;refine ah ?_
  refine eC 48 (fun hc=>?_) fun hc=>?_
  ·
   have hb:n.i≠0:=by simpa using hc
   iterate 8 refine cD ?_
   refine cF ?_;refine ah ?_
   iterate 8 refine cD ?_
   refine cF ?_;refine gE (ab.bV rfl (gS (gR ?_)));refine ai ?_;refine gE ?_
   refine gT Jt fun w' hS=>?_
   exact ⟨hS.ext,by rw [show aK n at_=3 from (aY hop hox hoy).trans (eD (by simp [iO,bne,h3,h17,hA,hG];omega))];rfl⟩
  have hzi:n.i=0:=by simpa using hc
  refine al Jo Jl 5 ?_;refine aq Jn 0 ?_;refine eZ bG ?_;refine ah ?_;refine al Jk Ji 2 ?_;refine aq Jj 1 ?_;refine aw gJ ?_;refine cF ?_;refine bB ?_;refine ah ?_
  refine eC 58 (fun hc=>?_) fun hc=>?_
  ·
   have hb:n.e≠0:=by simpa using hc
   iterate 8 refine cD ?_
   refine cF ?_;refine gE (ab.bV rfl (gS (gR ?_)));refine ai ?_;refine gE ?_
   refine gT Jt fun w' hS=>?_
   exact ⟨hS.ext,by rw [show aK n at_=3 from (aY hop hox hoy).trans (eD (by simp [iO,bne,h3,h17,hA,hG];omega))];rfl⟩
  have hze:n.e=0:=by simpa using hc
  refine al Jo Jl 4 ?_;refine aq Jn 0 ?_
  have hfa:(!iO n.op && n.i !=0||n.op !=17 && n.e !=0||!lT n.op && n.g !=0)=false:=by simp [iO,bne,h3,h17,hA,hG];omega
  refine eZ bG ?_;refine ah ?_
  iterate 3 refine cD ?_
  iterate 2 refine bB ?_
  refine gE (ab.gD rfl (gK (gS (gR ?_))));refine ai ?_;refine gE (gS (gS (gR ?_)));refine ah ?_;refine al Jo Jl 2 ?_;refine aq Jn 0 ?_;refine al Jk Ji 1 ?_;refine aq Jj 1 ?_
  refine gP rfl rfl rfl rfl rfl JB (fun w _ hS=>(by exact bS false n.i 0 7 w)) ?_
  iterate 2 refine ah ?_
  refine al Jo Jl 3 ?_;refine aq Jn 0 ?_;refine al Jk Ji 1 ?_;refine aq Jj 1 ?_
  refine gP rfl rfl rfl rfl rfl JB (fun w _ hS=>(by exact bS false n.i 0 3 w)) ?_
  refine bB ?_
  iterate 2 refine ah ?_
  refine al Jo Jl 5 ?_;refine aq Jn 0 ?_;refine al Jk Ji 1 ?_;refine aq Jj 1 ?_
  refine gP rfl rfl rfl rfl rfl JB (fun w _ hS=>(by exact bS false n.i 0 7 w)) ?_
  refine bB ?_
  iterate 2 refine ah ?_
  refine al Jo Jl 5 ?_;refine aq Jn 0 ?_;refine al Jk Ji 2 ?_;refine aq Jj 1 ?_
  refine gP rfl rfl rfl rfl rfl JB (fun w _ hS=>(by exact bS false n.e 0 7 w)) ?_
  refine bB ?_
  iterate 2 refine ah ?_
  refine al Jo Jl 4 ?_;refine aq Jn 0 ?_;refine al Jk Ji 3 ?_;refine aq Jj 1 ?_
  refine gP rfl rfl rfl rfl rfl JB (fun w _ hS=>(by exact bS true n.g 1 15 w)) ?_
  refine bB ?_;refine gE ?_
  refine gC (fun hc=>?_) fun hc=>?_
  ·
   have hb:n.g<1∨15<n.g:=by simpa [kM] using hc
   refine gS (gR ?_);refine ai ?_;refine gE ?_
   refine gT Jt fun w' hS=>?_
   exact ⟨hS.ext,by rw [show aK n at_=2 from (aY hop hox hoy).trans (mr hfa (by simp [h3,h17,hA,hG];omega))];rfl⟩
  have hrG:1≤n.g∧n.g≤15:=by simpa [kM] using hc
  refine gK (gS (gR ?_));refine ai ?_;refine gE ?_
  refine gT Jt fun w' hS=>?_
  exact ⟨hS.ext,by rw [show aK n at_=0 from (aY hop hox hoy).trans (kH hfa (by simp [h3,h17,hA,hG];omega))];rfl⟩
set_option maxRecDepth 4000 in
theorem yx (n:NV) (at_ fr:Int) (w:World) (hop:1≤n.op∧n.op≤21) (hX:cG n.op=true) (hY:ct n.op=true) (h3:(n.op==3)=false) (hA:pf n.op=false) (h17:(n.op==17)=false) (hG:lT n.op=true) (hU:qQ n.op=.agg #[.bool true,.bool true,.bool false,.bool false,.bool true,.bool false,.int .i64 fr]) (hK:okO n.op=true):
    Cn Tryz.prog 102 [n.v,.int .i64 at_] w (fun v _=>v=.int .i64 (aK n at_)):=by
  refine Cn.of Jt rfl rfl ?_
  refine gS (gR ?_)
  refine ab.bx rfl rfl rfl rfl (fun b2=>?_)
  refine ai ?_;refine gE (gS (gR ?_));refine al Jk Ji 0 ?_;refine aq Jj 0 ?_
  refine gP rfl rfl rfl rfl rfl call105 (fun w _ hS=>(by have:=gV n.op w;rw [hU,hK] at this;exact this)) ?_
  refine ah ?_
  iterate 2 refine fZ ?_
  refine ab.eO rfl rfl rfl (fun _=>J8 _) (fun b5=>?_)
  refine ab.dF rfl rfl rfl rfl Ju 0 rfl rfl rfl rfl ?_
  refine ai ?_;refine gE (gS (gS (gR ?_)));refine ah ?_;refine eZ bG ?_;refine gE ?_
  refine ab.cond rfl (fun hc=>by exfalso;simp at hc) (fun _=>?_)
  refine gK (gS (gS (gR ?_)));refine al Jo Jl 0 ?_;refine aq Jn 0 ?_;refine al Jk Ji 4 ?_;refine aq Jj 1 ?_;refine ah ?_
  refine gP rfl rfl rfl rfl rfl J3 (fun w _ hS=>(by exact cd true n.x at_ w)) ?_
  refine eZ bG ?_;refine ah ?_
  refine eC 23 (fun hc=>?_) fun hc=>?_
  ·
   have hb:iR (cG n.op) n.x at_=false:=by rw [hX];simpa using hc
   iterate 7 refine cD ?_
   refine cF ?_;refine gE (ab.bV rfl (gS (gR ?_)));refine ai ?_;refine gE ?_
   refine gT Jt fun w' hS=>?_
   exact ⟨hS.ext,by rw [show aK n at_=3 from iV hop hb];rfl⟩
  have hox:iR (cG n.op) n.x at_=true:=by rw [hX];simpa using hc
  refine al Jo Jl 1 ?_;refine aq Jn 0 ?_;refine al Jk Ji 5 ?_;refine aq Jj 1 ?_;refine ah ?_
  refine gP rfl rfl rfl rfl rfl J3 (fun w _ hS=>(by exact cd true n.y at_ w)) ?_
  refine eZ bG ?_;refine bB ?_;refine gE ?_
  refine gC (fun hc=>?_) fun hc=>?_
  ·
   have hb:iR (ct n.op) n.y at_=false:=by rw [hY];simpa using hc
   refine gS (gR ?_);refine ai ?_;refine gE ?_
   refine gT Jt fun w' hS=>?_
   exact ⟨hS.ext,by rw [show aK n at_=3 from iU hop hb];rfl⟩
  have hoy:iR (ct n.op) n.y at_=true:=by rw [hY];simpa using hc
  refine gK (gS (gS (gR ?_)));refine al Jo Jl 2 ?_;refine aq Jn 0 ?_;refine ah ?_;refine al Jo Jl 3 ?_;refine aq Jn 0 ?_;refine bB ?_;refine ah ?_;refine al Jo Jl 5 ?_;refine aq Jn 0 ?_;refine bB ?_;refine eZ bG ?_;refine ah ?_;refine al Jk Ji 1 ?_
  refine aq Jj 1 ?_;refine aw gJ ?_;refine cF ?_;refine ah ?_
  refine eC 48 (fun hc=>?_) fun hc=>?_
  ·
   have hb:n.i≠0:=by simpa using hc
   iterate 8 refine cD ?_
   refine cF ?_;refine ah ?_
   iterate 8 refine cD ?_
   refine cF ?_;refine gE (ab.bV rfl (gS (gR ?_)));refine ai ?_;refine gE ?_
   refine gT Jt fun w' hS=>?_
   exact ⟨hS.ext,by rw [show aK n at_=3 from (aY hop hox hoy).trans (eD (by simp [iO,bne,h3,h17,hA,hG];omega))];rfl⟩
  have hzi:n.i=0:=by simpa using hc
  refine al Jo Jl 5 ?_;refine aq Jn 0 ?_;refine eZ bG ?_;refine ah ?_;refine al Jk Ji 2 ?_;refine aq Jj 1 ?_;refine aw gJ ?_;refine cF ?_;refine bB ?_;refine ah ?_
  refine eC 58 (fun hc=>?_) fun hc=>?_
  ·
   have hb:n.e≠0:=by simpa using hc
   iterate 8 refine cD ?_
   refine cF ?_;refine gE (ab.bV rfl (gS (gR ?_)));refine ai ?_;refine gE ?_
   refine gT Jt fun w' hS=>?_
   exact ⟨hS.ext,by rw [show aK n at_=3 from (aY hop hox hoy).trans (eD (by simp [iO,bne,h3,h17,hA,hG];omega))];rfl⟩
  have hze:n.e=0:=by simpa using hc
  refine al Jo Jl 4 ?_;refine aq Jn 0 ?_
  have hfa:(!iO n.op && n.i !=0||n.op !=17 && n.e !=0||!lT n.op && n.g !=0)=false:=by simp [iO,bne,h3,h17,hA,hG];omega
  refine eZ bG ?_;refine ah ?_
  iterate 3 refine cD ?_
  iterate 2 refine bB ?_
  refine gE (ab.gD rfl (gK (gS (gR ?_))));refine ai ?_;refine gE (gS (gS (gR ?_)));refine ah ?_;refine al Jo Jl 2 ?_;refine aq Jn 0 ?_;refine al Jk Ji 1 ?_;refine aq Jj 1 ?_
  refine gP rfl rfl rfl rfl rfl JB (fun w _ hS=>(by exact bS false n.i 0 7 w)) ?_
  iterate 2 refine ah ?_
  refine al Jo Jl 3 ?_;refine aq Jn 0 ?_;refine al Jk Ji 1 ?_;refine aq Jj 1 ?_
  refine gP rfl rfl rfl rfl rfl JB (fun w _ hS=>(by exact bS false n.i 0 3 w)) ?_
  refine bB ?_
  iterate 2 refine ah ?_
  refine al Jo Jl 5 ?_;refine aq Jn 0 ?_;refine al Jk Ji 1 ?_;refine aq Jj 1 ?_
  refine gP rfl rfl rfl rfl rfl JB (fun w _ hS=>(by exact bS false n.i 0 7 w)) ?_
  refine bB ?_
  iterate 2 refine ah ?_
  refine al Jo Jl 5 ?_;refine aq Jn 0 ?_;refine al Jk Ji 2 ?_;refine aq Jj 1 ?_
  refine gP rfl rfl rfl rfl rfl JB (fun w _ hS=>(by exact bS false n.e 0 7 w)) ?_
  refine bB ?_
  iterate 2 refine ah ?_
  refine al Jo Jl 4 ?_;refine aq Jn 0 ?_;refine al Jk Ji 3 ?_;refine aq Jj 1 ?_
  refine gP rfl rfl rfl rfl rfl JB (fun w _ hS=>(by exact bS true n.g 1 15 w)) ?_
  refine bB ?_;refine gE ?_
  refine gC (fun hc=>?_) fun hc=>?_
  ·
   have hb:n.g<1∨15<n.g:=by simpa [kM] using hc
   refine gS (gR ?_);refine ai ?_;refine gE ?_
   refine gT Jt fun w' hS=>?_
   exact ⟨hS.ext,by rw [show aK n at_=2 from (aY hop hox hoy).trans (mr hfa (by simp [h3,h17,hA,hG];omega))];rfl⟩
  have hrG:1≤n.g∧n.g≤15:=by simpa [kM] using hc
  refine gK (gS (gR ?_));refine ai ?_;refine gE ?_
  refine gT Jt fun w' hS=>?_
  exact ⟨hS.ext,by rw [show aK n at_=0 from (aY hop hox hoy).trans (kH hfa (by simp [h3,h17,hA,hG];omega))];rfl⟩
set_option maxRecDepth 4000 in
theorem yz (n:NV) (at_ fr:Int) (w:World) (hop:1≤n.op∧n.op≤21) (hX:cG n.op=true) (hY:ct n.op=true) (h3:(n.op==3)=false) (hA:pf n.op=true) (h17:(n.op==17)=false) (hG:lT n.op=false) (hU:qQ n.op=.agg #[.bool true,.bool true,.bool false,.bool true,.bool false,.bool false,.int .i64 fr]) (hK:okO n.op=true):
    Cn Tryz.prog 102 [n.v,.int .i64 at_] w (fun v _=>v=.int .i64 (aK n at_)):=by
  refine Cn.of Jt rfl rfl ?_
  refine gS (gR ?_)
  refine ab.bx rfl rfl rfl rfl (fun b2=>?_)
  refine ai ?_;refine gE (gS (gR ?_));refine al Jk Ji 0 ?_;refine aq Jj 0 ?_
  refine gP rfl rfl rfl rfl rfl call105 (fun w _ hS=>(by have:=gV n.op w;rw [hU,hK] at this;exact this)) ?_
  refine ah ?_
  iterate 2 refine fZ ?_
  refine ab.eO rfl rfl rfl (fun _=>J8 _) (fun b5=>?_)
  refine ab.dF rfl rfl rfl rfl Ju 0 rfl rfl rfl rfl ?_
  refine ai ?_;refine gE (gS (gS (gR ?_)));refine ah ?_;refine eZ bG ?_;refine gE ?_
  refine ab.cond rfl (fun hc=>by exfalso;simp at hc) (fun _=>?_)
  refine gK (gS (gS (gR ?_)));refine al Jo Jl 0 ?_;refine aq Jn 0 ?_;refine al Jk Ji 4 ?_;refine aq Jj 1 ?_;refine ah ?_
  refine gP rfl rfl rfl rfl rfl J3 (fun w _ hS=>(by exact cd true n.x at_ w)) ?_
  refine eZ bG ?_;refine ah ?_
  refine eC 23 (fun hc=>?_) fun hc=>?_
  ·
   have hb:iR (cG n.op) n.x at_=false:=by rw [hX];simpa using hc
   iterate 7 refine cD ?_
   refine cF ?_;refine gE (ab.bV rfl (gS (gR ?_)));refine ai ?_;refine gE ?_
   refine gT Jt fun w' hS=>?_
   exact ⟨hS.ext,by rw [show aK n at_=3 from iV hop hb];rfl⟩
  have hox:iR (cG n.op) n.x at_=true:=by rw [hX];simpa using hc
  refine al Jo Jl 1 ?_;refine aq Jn 0 ?_;refine al Jk Ji 5 ?_;refine aq Jj 1 ?_;refine ah ?_
  refine gP rfl rfl rfl rfl rfl J3 (fun w _ hS=>(by exact cd true n.y at_ w)) ?_
  refine eZ bG ?_;refine bB ?_;refine gE ?_
  refine gC (fun hc=>?_) fun hc=>?_
  ·
   have hb:iR (ct n.op) n.y at_=false:=by rw [hY];simpa using hc
   refine gS (gR ?_);refine ai ?_;refine gE ?_
   refine gT Jt fun w' hS=>?_
   exact ⟨hS.ext,by rw [show aK n at_=3 from iU hop hb];rfl⟩
  have hoy:iR (ct n.op) n.y at_=true:=by rw [hY];simpa using hc
  refine gK (gS (gS (gR ?_)));refine al Jo Jl 2 ?_;refine aq Jn 0 ?_;refine ah ?_;refine al Jo Jl 3 ?_;refine aq Jn 0 ?_;refine bB ?_;refine ah ?_
  iterate 2 refine cD ?_
  refine cF ?_;refine eZ bG ?_;refine ah ?_
  iterate 3 refine cD ?_
  refine bB ?_;refine ah ?_;refine al Jo Jl 5 ?_;refine aq Jn 0 ?_;refine eZ bG ?_;refine ah ?_;refine al Jk Ji 2 ?_;refine aq Jj 1 ?_;refine aw gJ ?_;refine cF ?_;refine bB ?_;refine ah ?_
  refine eC 58 (fun hc=>?_) fun hc=>?_
  ·
   have hb:n.e≠0:=by simpa using hc
   iterate 8 refine cD ?_
   refine cF ?_;refine gE (ab.bV rfl (gS (gR ?_)));refine ai ?_;refine gE ?_
   refine gT Jt fun w' hS=>?_
   exact ⟨hS.ext,by rw [show aK n at_=3 from (aY hop hox hoy).trans (eD (by simp [iO,bne,h3,h17,hA,hG];omega))];rfl⟩
  have hze:n.e=0:=by simpa using hc
  refine al Jo Jl 4 ?_;refine aq Jn 0 ?_;refine eZ bG ?_;refine ah ?_;refine al Jk Ji 3 ?_;refine aq Jj 1 ?_;refine aw gJ ?_;refine cF ?_;refine bB ?_;refine gE ?_
  refine gC (fun hc=>?_) fun hc=>?_
  ·
   have hb:n.g≠0:=by simpa using hc
   refine gS (gR ?_);refine ai ?_;refine gE ?_
   refine gT Jt fun w' hS=>?_
   exact ⟨hS.ext,by rw [show aK n at_=3 from (aY hop hox hoy).trans (eD (by simp [iO,bne,h3,h17,hA,hG];omega))];rfl⟩
  have hzg:n.g=0:=by simpa using hc
  have hfa:(!iO n.op && n.i !=0||n.op !=17 && n.e !=0||!lT n.op && n.g !=0)=false:=by simp [iO,bne,h3,h17,hA,hG];omega
  refine gK (gS (gR ?_));refine ai ?_;refine gE (gS (gS (gR ?_)));refine ah ?_;refine al Jo Jl 2 ?_;refine aq Jn 0 ?_;refine al Jk Ji 1 ?_;refine aq Jj 1 ?_
  refine gP rfl rfl rfl rfl rfl JB (fun w _ hS=>(by exact bS false n.i 0 7 w)) ?_
  iterate 2 refine ah ?_
  refine al Jo Jl 3 ?_;refine aq Jn 0 ?_;refine al Jk Ji 1 ?_;refine aq Jj 1 ?_
  refine gP rfl rfl rfl rfl rfl JB (fun w _ hS=>(by exact bS true n.i 0 3 w)) ?_
  refine bB ?_;refine ah ?_
  refine eC 82 (fun hc=>?_) fun hc=>?_
  ·
   have hb:n.i<0∨3<n.i:=by simpa [kM] using hc
   iterate 6 refine cD ?_
   refine cF ?_;refine ah ?_
   iterate 6 refine cD ?_
   refine cF ?_;refine ah ?_
   iterate 6 refine cD ?_
   refine cF ?_;refine gE (ab.bV rfl (gS (gR ?_)));refine ai ?_;refine gE ?_
   refine gT Jt fun w' hS=>?_
   exact ⟨hS.ext,by rw [show aK n at_=2 from (aY hop hox hoy).trans (mr hfa (by simp [h3,h17,hA,hG];omega))];rfl⟩
  have hrA:0≤n.i∧n.i≤3:=by simpa [kM] using hc
  refine ah ?_;refine al Jo Jl 5 ?_;refine aq Jn 0 ?_;refine al Jk Ji 1 ?_;refine aq Jj 1 ?_
  refine gP rfl rfl rfl rfl rfl JB (fun w _ hS=>(by exact bS false n.i 0 7 w)) ?_
  refine bB ?_
  iterate 2 refine ah ?_
  refine al Jo Jl 5 ?_;refine aq Jn 0 ?_;refine al Jk Ji 2 ?_;refine aq Jj 1 ?_
  refine gP rfl rfl rfl rfl rfl JB (fun w _ hS=>(by exact bS false n.e 0 7 w)) ?_
  refine bB ?_
  iterate 2 refine ah ?_
  refine al Jo Jl 4 ?_;refine aq Jn 0 ?_;refine al Jk Ji 3 ?_;refine aq Jj 1 ?_
  refine gP rfl rfl rfl rfl rfl JB (fun w _ hS=>(by exact bS false n.g 1 15 w)) ?_
  refine bB ?_;refine gE (ab.gD rfl (gK (gS (gR ?_))));refine ai ?_;refine gE ?_
  refine gT Jt fun w' hS=>?_
  exact ⟨hS.ext,by rw [show aK n at_=0 from (aY hop hox hoy).trans (kH hfa (by simp [h3,h17,hA,hG];omega))];rfl⟩
set_option maxRecDepth 4000 in
theorem yA (n:NV) (at_ fr:Int) (w:World) (hop:1≤n.op∧n.op≤21) (hX:cG n.op=true) (hY:ct n.op=false) (h3:(n.op==3)=false) (hA:pf n.op=false) (h17:(n.op==17)=true) (hG:lT n.op=false) (hU:qQ n.op=.agg #[.bool true,.bool false,.bool false,.bool false,.bool false,.bool true,.int .i64 fr]) (hK:okO n.op=true):
    Cn Tryz.prog 102 [n.v,.int .i64 at_] w (fun v _=>v=.int .i64 (aK n at_)):=by
  refine Cn.of Jt rfl rfl ?_
  refine gS (gR ?_)
  refine ab.bx rfl rfl rfl rfl (fun b2=>?_)
  refine ai ?_;refine gE (gS (gR ?_));refine al Jk Ji 0 ?_;refine aq Jj 0 ?_
  refine gP rfl rfl rfl rfl rfl call105 (fun w _ hS=>(by have:=gV n.op w;rw [hU,hK] at this;exact this)) ?_
  refine ah ?_
  iterate 2 refine fZ ?_
  refine ab.eO rfl rfl rfl (fun _=>J8 _) (fun b5=>?_)
  refine ab.dF rfl rfl rfl rfl Ju 0 rfl rfl rfl rfl ?_
  refine ai ?_;refine gE (gS (gS (gR ?_)));refine ah ?_;refine eZ bG ?_;refine gE ?_
  refine ab.cond rfl (fun hc=>by exfalso;simp at hc) (fun _=>?_)
  refine gK (gS (gS (gR ?_)));refine al Jo Jl 0 ?_;refine aq Jn 0 ?_;refine al Jk Ji 4 ?_;refine aq Jj 1 ?_;refine ah ?_
  refine gP rfl rfl rfl rfl rfl J3 (fun w _ hS=>(by exact cd true n.x at_ w)) ?_
  refine eZ bG ?_;refine ah ?_
  refine eC 23 (fun hc=>?_) fun hc=>?_
  ·
   have hb:iR (cG n.op) n.x at_=false:=by rw [hX];simpa using hc
   iterate 7 refine cD ?_
   refine cF ?_;refine gE (ab.bV rfl (gS (gR ?_)));refine ai ?_;refine gE ?_
   refine gT Jt fun w' hS=>?_
   exact ⟨hS.ext,by rw [show aK n at_=3 from iV hop hb];rfl⟩
  have hox:iR (cG n.op) n.x at_=true:=by rw [hX];simpa using hc
  refine al Jo Jl 1 ?_;refine aq Jn 0 ?_;refine al Jk Ji 5 ?_;refine aq Jj 1 ?_;refine ah ?_
  refine gP rfl rfl rfl rfl rfl J3 (fun w _ hS=>(by exact cd false n.y at_ w)) ?_
  refine eZ bG ?_;refine bB ?_;refine gE ?_
  refine gC (fun hc=>?_) fun hc=>?_
  ·
   have hb:iR (ct n.op) n.y at_=false:=by rw [hY];simpa using hc
   refine gS (gR ?_);refine ai ?_;refine gE ?_
   refine gT Jt fun w' hS=>?_
   exact ⟨hS.ext,by rw [show aK n at_=3 from iU hop hb];rfl⟩
  have hoy:iR (ct n.op) n.y at_=true:=by rw [hY];simpa using hc
  refine gK (gS (gS (gR ?_)));refine al Jo Jl 2 ?_;refine aq Jn 0 ?_;refine ah ?_;refine al Jo Jl 3 ?_;refine aq Jn 0 ?_;refine bB ?_;refine ah ?_;refine al Jo Jl 5 ?_;refine aq Jn 0 ?_;refine bB ?_;refine eZ bG ?_;refine ah ?_
  iterate 3 refine cD ?_
  refine bB ?_;refine ah ?_;refine al Jo Jl 5 ?_;refine aq Jn 0 ?_;refine eZ bG ?_;refine ah ?_
  iterate 3 refine cD ?_
  iterate 2 refine bB ?_
  refine ah ?_;refine al Jo Jl 4 ?_;refine aq Jn 0 ?_;refine eZ bG ?_;refine ah ?_;refine al Jk Ji 3 ?_;refine aq Jj 1 ?_;refine aw gJ ?_;refine cF ?_;refine bB ?_;refine gE ?_
  refine gC (fun hc=>?_) fun hc=>?_
  ·
   have hb:n.g≠0:=by simpa using hc
   refine gS (gR ?_);refine ai ?_;refine gE ?_
   refine gT Jt fun w' hS=>?_
   exact ⟨hS.ext,by rw [show aK n at_=3 from (aY hop hox hoy).trans (eD (by simp [iO,bne,h3,h17,hA,hG];omega))];rfl⟩
  have hzg:n.g=0:=by simpa using hc
  have hfa:(!iO n.op && n.i !=0||n.op !=17 && n.e !=0||!lT n.op && n.g !=0)=false:=by simp [iO,bne,h3,h17,hA,hG];omega
  refine gK (gS (gR ?_));refine ai ?_;refine gE (gS (gS (gR ?_)));refine ah ?_;refine al Jo Jl 2 ?_;refine aq Jn 0 ?_;refine al Jk Ji 1 ?_;refine aq Jj 1 ?_
  refine gP rfl rfl rfl rfl rfl JB (fun w _ hS=>(by exact bS false n.i 0 7 w)) ?_
  iterate 2 refine ah ?_
  refine al Jo Jl 3 ?_;refine aq Jn 0 ?_;refine al Jk Ji 1 ?_;refine aq Jj 1 ?_
  refine gP rfl rfl rfl rfl rfl JB (fun w _ hS=>(by exact bS false n.i 0 3 w)) ?_
  refine bB ?_
  iterate 2 refine ah ?_
  refine al Jo Jl 5 ?_;refine aq Jn 0 ?_;refine al Jk Ji 1 ?_;refine aq Jj 1 ?_
  refine gP rfl rfl rfl rfl rfl JB (fun w _ hS=>(by exact bS true n.i 0 7 w)) ?_
  refine bB ?_;refine ah ?_
  refine eC 90 (fun hc=>?_) fun hc=>?_
  ·
   have hb:n.i<0∨7<n.i:=by simpa [kM] using hc
   iterate 6 refine cD ?_
   refine cF ?_;refine ah ?_
   iterate 6 refine cD ?_
   refine cF ?_;refine gE (ab.bV rfl (gS (gR ?_)));refine ai ?_;refine gE ?_
   refine gT Jt fun w' hS=>?_
   exact ⟨hS.ext,by rw [show aK n at_=2 from (aY hop hox hoy).trans (mr hfa (by simp [h3,h17,hA,hG];omega))];rfl⟩
  have hr17:0≤n.i∧n.i≤7:=by simpa [kM] using hc
  refine ah ?_;refine al Jo Jl 5 ?_;refine aq Jn 0 ?_;refine al Jk Ji 2 ?_;refine aq Jj 1 ?_
  refine gP rfl rfl rfl rfl rfl JB (fun w _ hS=>(by exact bS true n.e 0 7 w)) ?_
  refine bB ?_;refine ah ?_
  refine eC 98 (fun hc=>?_) fun hc=>?_
  ·
   have hb:n.e<0∨7<n.e:=by simpa [kM] using hc
   iterate 6 refine cD ?_
   refine cF ?_;refine gE (ab.bV rfl (gS (gR ?_)));refine ai ?_;refine gE ?_
   refine gT Jt fun w' hS=>?_
   exact ⟨hS.ext,by rw [show aK n at_=2 from (aY hop hox hoy).trans (mr hfa (by simp [h3,h17,hA,hG];omega))];rfl⟩
  have hrE:0≤n.e∧n.e≤7:=by simpa [kM] using hc
  refine ah ?_;refine al Jo Jl 4 ?_;refine aq Jn 0 ?_;refine al Jk Ji 3 ?_;refine aq Jj 1 ?_
  refine gP rfl rfl rfl rfl rfl JB (fun w _ hS=>(by exact bS false n.g 1 15 w)) ?_
  refine bB ?_;refine gE (ab.gD rfl (gK (gS (gR ?_))));refine ai ?_;refine gE ?_
  refine gT Jt fun w' hS=>?_
  exact ⟨hS.ext,by rw [show aK n at_=0 from (aY hop hox hoy).trans (kH hfa (by simp [h3,h17,hA,hG];omega))];rfl⟩
theorem yy (n:NV) (at_:Int) (w:World):Cn Tryz.prog 102 [n.v,.int .i64 at_] w (fun v _=>v=.int .i64 (aK n at_)):=by
 by_cases hop:1≤n.op∧n.op≤21
 ·obtain ⟨op,i,e,g,x,y⟩:=n
  dsimp only at hop
  have hcs:op=1∨op=2∨op=3∨op=4∨op=5∨op=6∨op=7∨op=8∨op=9∨op=10∨op=11∨op=12∨op=13∨op=14∨op=15∨op=16∨op=17∨op=18∨op=19∨op=20∨op=21:=by omega
  rcases hcs with rfl|rfl|rfl|rfl|rfl|rfl|rfl|rfl|rfl|rfl|rfl|rfl|rfl|rfl|rfl|rfl|rfl|rfl|rfl|rfl|rfl
  ·exact qW ⟨1,i,e,g,x,y⟩ at_ _ w hop rfl rfl rfl rfl rfl rfl rfl rfl
  ·exact qW ⟨2,i,e,g,x,y⟩ at_ _ w hop rfl rfl rfl rfl rfl rfl rfl rfl
  ·exact wN ⟨3,i,e,g,x,y⟩ at_ _ w hop rfl rfl rfl rfl rfl rfl rfl rfl
  ·exact pL ⟨4,i,e,g,x,y⟩ at_ _ w hop rfl rfl rfl rfl rfl rfl rfl rfl
  ·exact jl ⟨5,i,e,g,x,y⟩ at_ _ w hop rfl rfl rfl rfl rfl rfl rfl rfl
  ·exact jl ⟨6,i,e,g,x,y⟩ at_ _ w hop rfl rfl rfl rfl rfl rfl rfl rfl
  ·exact jl ⟨7,i,e,g,x,y⟩ at_ _ w hop rfl rfl rfl rfl rfl rfl rfl rfl
  ·exact jl ⟨8,i,e,g,x,y⟩ at_ _ w hop rfl rfl rfl rfl rfl rfl rfl rfl
  ·exact nS ⟨9,i,e,g,x,y⟩ at_ _ w hop rfl rfl rfl rfl rfl rfl rfl rfl
  ·exact nS ⟨10,i,e,g,x,y⟩ at_ _ w hop rfl rfl rfl rfl rfl rfl rfl rfl
  ·exact tj ⟨11,i,e,g,x,y⟩ at_ _ w hop rfl rfl rfl rfl rfl rfl rfl rfl
  ·exact tj ⟨12,i,e,g,x,y⟩ at_ _ w hop rfl rfl rfl rfl rfl rfl rfl rfl
  ·exact yx ⟨13,i,e,g,x,y⟩ at_ _ w hop rfl rfl rfl rfl rfl rfl rfl rfl
  ·exact yz ⟨14,i,e,g,x,y⟩ at_ _ w hop rfl rfl rfl rfl rfl rfl rfl rfl
  ·exact nS ⟨15,i,e,g,x,y⟩ at_ _ w hop rfl rfl rfl rfl rfl rfl rfl rfl
  ·exact jl ⟨16,i,e,g,x,y⟩ at_ _ w hop rfl rfl rfl rfl rfl rfl rfl rfl
  ·exact yA ⟨17,i,e,g,x,y⟩ at_ _ w hop rfl rfl rfl rfl rfl rfl rfl rfl
  ·exact pL ⟨18,i,e,g,x,y⟩ at_ _ w hop rfl rfl rfl rfl rfl rfl rfl rfl
  ·exact jl ⟨19,i,e,g,x,y⟩ at_ _ w hop rfl rfl rfl rfl rfl rfl rfl rfl
  ·exact pL ⟨20,i,e,g,x,y⟩ at_ _ w hop rfl rfl rfl rfl rfl rfl rfl rfl
  exact jl ⟨21,i,e,g,x,y⟩ at_ _ w hop rfl rfl rfl rfl rfl rfl rfl rfl
 refine Cn.of Jt rfl rfl ?_
 have hK:=vD hop
 refine gS (gR ?_)
 refine ab.bx rfl rfl rfl rfl (fun b2=>?_)
 refine ai ?_;refine gE (gS (gR ?_));refine al Jk Ji 0 ?_;refine aq Jj 0 ?_
 refine gP rfl rfl rfl rfl rfl call105 (fun w _ hS=>(by have:=gV n.op w;rw [hK] at this;exact this)) ?_
 refine ah ?_
 iterate 2 refine fZ ?_
 refine ab.eO rfl rfl rfl (fun _=>J8 _) (fun b5=>?_)
 refine ab.dF rfl rfl rfl rfl Ju 0 rfl rfl rfl rfl ?_
 refine ai ?_;refine gE (gS (gS (gR ?_)));refine ah ?_;refine eZ bG ?_;refine gE ?_
 refine ab.cond rfl (fun _=>?_) (fun hc=>by exfalso;simp at hc)
 refine gS (gR ?_);refine ai ?_;refine gE ?_
 refine gT Jt fun w' hS=>?_
 exact ⟨hS.ext,by rw [yB hop];rfl⟩
theorem fV (a:Option Addr) (ca:Nat) (f:List NV) (w:World) (ha:FA w a f) (hl:f.length≤maxLen):Cn Tryz.prog 54 [.slice a f.length ca] w (fun v _=>v=.int .i64 (aW f)):=by
  unfold maxLen at hl
  refine Cn.of func54 rfl rfl ?_
  refine gS (gR ?_);refine ai ?_;refine gE (gS (gS (gR ?_)));refine ah ?_;refine dM Jr ?_;refine aw bd ?_;refine gE ?_
  refine gC (fun hc=>?_) fun hc=>?_
  ·
   have h1:f.length=0:=by simpa using hc
   refine gS (gR ?_);refine ai ?_;refine gE ?_
   refine gT func54 fun w' hS=>?_
   exact ⟨hS.ext,by rw [aW,if_pos h1];rfl⟩
  have h1:¬f.length=0:=by simpa using hc
  refine gK (gS (gS (gR ?_)));refine ah ?_;refine dM Jr ?_;refine aw vf ?_;refine gE ?_
  refine gC (fun hc=>?_) fun hc=>?_
  ·
   have h2:200<f.length:=by simp at hc;omega
   refine gS (gR ?_);refine ai ?_;refine gE ?_
   refine gT func54 fun w' hS=>?_
   exact ⟨hS.ext,by rw [aW,if_neg h1,if_pos h2];rfl⟩
  have h2:¬200<f.length:=by simp at hc;omega
  refine gK (gS (gS (gR ?_)));refine ah ?_;refine dM Jr ?_;refine ah ?_;refine gE (gB ?_)
  refine ab.loop (σ:=Nat) (fun k=>[(0,.slice a f.length ca),(12,.slice a f.length ca),(13,.int .i64 f.length),(14,.int .i64 k)]) (fun _=>[]) (fun k=>k≤f.length∧fC (w7 f) k=0) (fun k=>f.length - k) 0 ⟨Nat.zero_le _,rfl⟩ ⟨rfl,rfl,rfl,rfl,trivial⟩ .slnil (fun k hI IH=>?_)
  obtain ⟨hk,hz⟩:=hI
  refine gS (gR ?_);refine aw iX ?_;refine gE (gS ?_)
  refine gC (fun hc=>?_) fun hc=>?_
  ·
   have hlt:k<f.length:=by simpa using hc
   have he:w7 f k=aK f[k] k:=by simp [w7,List.getD_eq_getElem?_getD,hlt]
   refine gK (gS (gB (gS (gR ?_))));refine ah ?_
   refine ab.v (ae.ed rfl rfl rfl rfl rfl Jr Jm ⟨_,(ha).at_⟩ (ax (enc:=NV.cells) (sz:=6) (fun _=>rfl)) (by decide) (k) ⟨rfl,hlt⟩) ?_
   refine ab.v (ae.nV (cs:=NV.cells f[k]) rfl rfl rfl rfl JD Jm (fun w _ hS=>Sl.many (enc:=NV.cells) (sz:=6) (ha.ay hS.ext).at_ (fun _=>rfl) hlt)) ?_
   refine ab.eO rfl rfl rfl (fun _=>JA _) (fun b4=>?_)
   refine ai ?_
   refine ab.dF rfl rfl rfl rfl Jm 0 rfl rfl rfl rfl ?_
   refine gE (gS (gR ?_))
   refine ab.v (ae.iA rfl rfl rfl rfl JD 0 rfl Jm rfl) ?_
   refine ah ?_
   refine gP rfl rfl rfl rfl rfl call102 (fun w _ hS=>(by exact yy f[k] k w)) ?_
   refine ai ?_;refine gE (gS (gR ?_));refine ah ?_;refine aw gJ ?_;refine gE ?_
   refine gC (fun hc=>?_) fun hc=>?_
   ·
    have h3:aK f[k] k≠0:=by simpa using hc
    refine gS (gR ?_);refine ah ?_;refine ai ?_;refine gE ?_
    refine gT func54 fun w' hS=>?_
    exact ⟨hS.ext,by rw [aW,if_neg h1,if_neg h2,uW hz (by rw [he];exact h3) hlt,he];rfl⟩
   have h3:aK f[k] k=0:=by simpa using hc
   refine gK (dO (gR ?_));refine db rfl rfl rfl rfl (cz (by omega)) ?_;refine ah ?_;refine gE ?_
   exact IH (k+1) _ _ ⟨hlt,by rw [fC,if_neg (by simp [hz]),he];exact h3⟩ (by omega) ⟨rfl,rfl,rfl,rfl,trivial⟩ (.cons _ .slnil)
  have hge:¬k<f.length:=by simpa using hc
  obtain rfl:k=f.length:=by omega
  refine ab.exit rfl (gS (gR ?_))
  refine ai ?_;refine gE ?_
  refine gT func54 fun w' hS=>?_
  exact ⟨hS.ext,by rw [aW,if_neg h1,if_neg h2,hz];rfl⟩
end Go.Proofs.YtnfmegcknckahaaGreatDoor
