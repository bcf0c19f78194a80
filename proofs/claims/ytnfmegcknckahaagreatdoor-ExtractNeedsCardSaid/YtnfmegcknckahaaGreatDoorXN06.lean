/- What calls of the program return, under the conditions that each theorem states. -/
import Derived.Test.YtnfmegcknckahaaGreatDoorXN04
import Derived.Test.YtnfmegcknckahaaGreatDoorXN05
import Derived.Test.YtnfmegcknckahaaGreatDoorXN03
namespace Go.Proofs.YtnfmegcknckahaaGreatDoor
open Go.RowKit Go.Proofs.Wit Tryz
/-! nodes in memory -/
theorem vz:∃fs,Tryz.prog.underlying 66=some (.struct fs)∧pM fs 3:=⟨_,Jg,_,_,_,_,_,_,rfl,⟨by decide,rfl,rfl⟩,⟨by decide,rfl,rfl⟩,⟨by decide,rfl,rfl⟩,⟨by decide,rfl,rfl⟩,⟨by decide,rfl,rfl⟩,⟨by decide,rfl,rfl⟩⟩
theorem xO:Tryz.prog.stoodInHeld 66=false:=by kernel_rfl
theorem DR:Tryz.prog.eqGuardType Tryz.prog.depth 66=false:=by kernel_rfl
theorem Cl:(Tryz.prog.info? 66).map (fun i=>(i.zero,i.size,i.bytes))=some (some GN.v,6,48):=by kernel_rfl
structure wa (q:Option Nat) (cap:Nat) (ts:List Tr) (sp:List Value):Prop where
  nil:q=none→(aQ ts).length=0∧cap=0
  cap:((aQ ts).flatMap NV.cells++sp).length=cap*6
  oM:l9 ts
  nd:ts.Nodup
  wf:∀u∈ts,u.wf
theorem wJ {ts:List Tr} {t:Tr} (ht:t∉ts):(ts++[t]).idxOf t=ts.length:=by
 rw [List.idxOf_append,if_neg ht];simp
end Go.Proofs.YtnfmegcknckahaaGreatDoor
namespace Go.Proofs.YtnfmegcknckahaaGreatDoor
open Go.RowKit Go.Proofs.Wit Tryz
/-! the program's check of a formula -/
set_option maxRecDepth 4000 in
theorem gV (op:Int) (w:World):Cn Tryz.prog 105 [.int .i64 op] w (fun v _=>v=.tuple #[qR op,.bool (okO op)]):=by
  refine Cn.of JQ rfl rfl ?_
  refine gS (gR ?_)
  refine ab.eK rfl rfl rfl (fun _=>J4 _) (fun b2=>?_)
  refine ai ?_;refine gE (gS (gS (gR ?_)));refine ah ?_;refine gE (gB (gS (gS (gR ?_))));refine aw bd ?_;refine ai ?_;refine gE ?_
  refine gC (fun hc=>?_) fun hc=>?_
  ·
   have h:op=1:=by simpa using hc
   refine gK ?_
   refine ab.cond rfl (fun _=>?_) (fun hc=>by exfalso;simp [h] at hc)
   refine gS (gR ?_)
   refine ab.v (ae.eP rfl rfl rfl rfl (bd122 (c:=[_,_,_,_,_,_,_]) rfl)) ?_
   refine ab.dD rfl rfl rfl rfl Jq 0 rfl rfl rfl rfl ?_
   refine ai ?_;refine gE ?_
   refine ab.fE Tryz.f105 JQ _ (aO.cell rfl JR Jq (j:=0) rfl rfl (aO.tmp rfl aO.nil)) (fun w' hS=>?_)
   exact ⟨hS.ext,by subst h;rfl⟩
  have h1:op≠1:=by simpa using hc
  refine gR ?_;refine aw bd ?_;refine ai ?_;refine gE ?_
  refine gC (fun hc=>?_) fun hc=>?_
  ·
   have h:op=2:=by simpa using hc
   refine gS (gR ?_)
   refine ab.v (ae.eP rfl rfl rfl rfl (bd122 (c:=[_,_,_,_,_,_,_]) rfl)) ?_
   refine ab.dD rfl rfl rfl rfl Jq 0 rfl rfl rfl rfl ?_
   refine ai ?_;refine gE ?_
   refine ab.fE Tryz.f105 JQ _ (aO.cell rfl JR Jq (j:=0) rfl rfl (aO.tmp rfl aO.nil)) (fun w' hS=>?_)
   exact ⟨hS.ext,by subst h;rfl⟩
  have h2:op≠2:=by simpa using hc
  refine gS (gR ?_);refine aw bd ?_;refine ai ?_;refine gE ?_
  refine gC (fun hc=>?_) fun hc=>?_
  ·
   have h:op=3:=by simpa using hc
   refine gS (gR ?_)
   refine ab.v (ae.eP rfl rfl rfl rfl (bd122 (c:=[_,_,_,_,_,_,_]) rfl)) ?_
   refine ab.dD rfl rfl rfl rfl Jq 0 rfl rfl rfl rfl ?_
   refine ai ?_;refine gE ?_
   refine ab.fE Tryz.f105 JQ _ (aO.cell rfl JR Jq (j:=0) rfl rfl (aO.tmp rfl aO.nil)) (fun w' hS=>?_)
   exact ⟨hS.ext,by subst h;rfl⟩
  have h3:op≠3:=by simpa using hc
  refine gS (gR ?_);refine aw bd ?_;refine ai ?_;refine gE ?_
  refine gC (fun hc=>?_) fun hc=>?_
  ·
   have h:op=4:=by simpa using hc
   refine gS (gR ?_)
   refine ab.v (ae.eP rfl rfl rfl rfl (bd122 (c:=[_,_,_,_,_,_,_]) rfl)) ?_
   refine ab.dD rfl rfl rfl rfl Jq 0 rfl rfl rfl rfl ?_
   refine ai ?_;refine gE ?_
   refine ab.fE Tryz.f105 JQ _ (aO.cell rfl JR Jq (j:=0) rfl rfl (aO.tmp rfl aO.nil)) (fun w' hS=>?_)
   exact ⟨hS.ext,by subst h;rfl⟩
  have h4:op≠4:=by simpa using hc
  refine gS (gS (gR ?_));refine aw bd ?_;refine ai ?_;refine gE ?_
  refine gC (fun hc=>?_) fun hc=>?_
  ·
   have h:op=5:=by simpa using hc
   refine gK ?_
   refine ab.cond rfl (fun _=>?_) (fun hc=>by exfalso;simp [h] at hc)
   refine gS (gR ?_)
   refine ab.v (ae.eP rfl rfl rfl rfl (bd122 (c:=[_,_,_,_,_,_,_]) rfl)) ?_
   refine ab.dD rfl rfl rfl rfl Jq 0 rfl rfl rfl rfl ?_
   refine ai ?_;refine gE ?_
   refine ab.fE Tryz.f105 JQ _ (aO.cell rfl JR Jq (j:=0) rfl rfl (aO.tmp rfl aO.nil)) (fun w' hS=>?_)
   exact ⟨hS.ext,by subst h;rfl⟩
  have h5:op≠5:=by simpa using hc
  refine gS (gR ?_);refine aw bd ?_;refine ai ?_;refine gE ?_
  refine gC (fun hc=>?_) fun hc=>?_
  ·
   have h:op=6:=by simpa using hc
   refine gK ?_
   refine ab.cond rfl (fun _=>?_) (fun hc=>by exfalso;simp [h] at hc)
   refine gS (gR ?_)
   refine ab.v (ae.eP rfl rfl rfl rfl (bd122 (c:=[_,_,_,_,_,_,_]) rfl)) ?_
   refine ab.dD rfl rfl rfl rfl Jq 0 rfl rfl rfl rfl ?_
   refine ai ?_;refine gE ?_
   refine ab.fE Tryz.f105 JQ _ (aO.cell rfl JR Jq (j:=0) rfl rfl (aO.tmp rfl aO.nil)) (fun w' hS=>?_)
   exact ⟨hS.ext,by subst h;rfl⟩
  have h6:op≠6:=by simpa using hc
  refine gS (gR ?_);refine aw bd ?_;refine ai ?_;refine gE ?_
  refine gC (fun hc=>?_) fun hc=>?_
  ·
   have h:op=7:=by simpa using hc
   refine gK ?_
   refine ab.cond rfl (fun _=>?_) (fun hc=>by exfalso;simp [h] at hc)
   refine gS (gR ?_)
   refine ab.v (ae.eP rfl rfl rfl rfl (bd122 (c:=[_,_,_,_,_,_,_]) rfl)) ?_
   refine ab.dD rfl rfl rfl rfl Jq 0 rfl rfl rfl rfl ?_
   refine ai ?_;refine gE ?_
   refine ab.fE Tryz.f105 JQ _ (aO.cell rfl JR Jq (j:=0) rfl rfl (aO.tmp rfl aO.nil)) (fun w' hS=>?_)
   exact ⟨hS.ext,by subst h;rfl⟩
  have h7:op≠7:=by simpa using hc
  refine gR ?_;refine aw bd ?_;refine ai ?_;refine gE ?_
  refine gC (fun hc=>?_) fun hc=>?_
  ·
   have h:op=8:=by simpa using hc
   refine gS (gR ?_)
   refine ab.v (ae.eP rfl rfl rfl rfl (bd122 (c:=[_,_,_,_,_,_,_]) rfl)) ?_
   refine ab.dD rfl rfl rfl rfl Jq 0 rfl rfl rfl rfl ?_
   refine ai ?_;refine gE ?_
   refine ab.fE Tryz.f105 JQ _ (aO.cell rfl JR Jq (j:=0) rfl rfl (aO.tmp rfl aO.nil)) (fun w' hS=>?_)
   exact ⟨hS.ext,by subst h;rfl⟩
  have h8:op≠8:=by simpa using hc
  refine gS (gS (gR ?_));refine aw bd ?_;refine ai ?_;refine gE ?_
  refine gC (fun hc=>?_) fun hc=>?_
  ·
   have h:op=9:=by simpa using hc
   refine gK ?_
   refine ab.cond rfl (fun _=>?_) (fun hc=>by exfalso;simp [h] at hc)
   refine gS (gR ?_)
   refine ab.v (ae.eP rfl rfl rfl rfl (bd122 (c:=[_,_,_,_,_,_,_]) rfl)) ?_
   refine ab.dD rfl rfl rfl rfl Jq 0 rfl rfl rfl rfl ?_
   refine ai ?_;refine gE ?_
   refine ab.fE Tryz.f105 JQ _ (aO.cell rfl JR Jq (j:=0) rfl rfl (aO.tmp rfl aO.nil)) (fun w' hS=>?_)
   exact ⟨hS.ext,by subst h;rfl⟩
  have h9:op≠9:=by simpa using hc
  refine gR ?_;refine aw bd ?_;refine ai ?_;refine gE ?_
  refine gC (fun hc=>?_) fun hc=>?_
  ·
   have h:op=10:=by simpa using hc
   refine gS (gR ?_)
   refine ab.v (ae.eP rfl rfl rfl rfl (bd122 (c:=[_,_,_,_,_,_,_]) rfl)) ?_
   refine ab.dD rfl rfl rfl rfl Jq 0 rfl rfl rfl rfl ?_
   refine ai ?_;refine gE ?_
   refine ab.fE Tryz.f105 JQ _ (aO.cell rfl JR Jq (j:=0) rfl rfl (aO.tmp rfl aO.nil)) (fun w' hS=>?_)
   exact ⟨hS.ext,by subst h;rfl⟩
  have h10:op≠10:=by simpa using hc
  refine gS (gR ?_);refine aw bd ?_;refine ai ?_;refine gE ?_
  refine gC (fun hc=>?_) fun hc=>?_
  ·
   have h:op=11:=by simpa using hc
   refine gS (gR ?_)
   refine ab.v (ae.eP rfl rfl rfl rfl (bd122 (c:=[_,_,_,_,_,_,_]) rfl)) ?_
   refine ab.dD rfl rfl rfl rfl Jq 0 rfl rfl rfl rfl ?_
   refine ai ?_;refine gE ?_
   refine ab.fE Tryz.f105 JQ _ (aO.cell rfl JR Jq (j:=0) rfl rfl (aO.tmp rfl aO.nil)) (fun w' hS=>?_)
   exact ⟨hS.ext,by subst h;rfl⟩
  have h11:op≠11:=by simpa using hc
  refine gS (gR ?_);refine aw bd ?_;refine ai ?_;refine gE ?_
  refine gC (fun hc=>?_) fun hc=>?_
  ·
   have h:op=12:=by simpa using hc
   refine gS (gR ?_)
   refine ab.v (ae.eP rfl rfl rfl rfl (bd122 (c:=[_,_,_,_,_,_,_]) rfl)) ?_
   refine ab.dD rfl rfl rfl rfl Jq 0 rfl rfl rfl rfl ?_
   refine ai ?_;refine gE ?_
   refine ab.fE Tryz.f105 JQ _ (aO.cell rfl JR Jq (j:=0) rfl rfl (aO.tmp rfl aO.nil)) (fun w' hS=>?_)
   exact ⟨hS.ext,by subst h;rfl⟩
  have h12:op≠12:=by simpa using hc
  refine gS (gR ?_);refine aw bd ?_;refine ai ?_;refine gE ?_
  refine gC (fun hc=>?_) fun hc=>?_
  ·
   have h:op=13:=by simpa using hc
   refine gS (gR ?_)
   refine ab.v (ae.eP rfl rfl rfl rfl (bd122 (c:=[_,_,_,_,_,_,_]) rfl)) ?_
   refine ab.dD rfl rfl rfl rfl Jq 0 rfl rfl rfl rfl ?_
   refine ai ?_;refine gE ?_
   refine ab.fE Tryz.f105 JQ _ (aO.cell rfl JR Jq (j:=0) rfl rfl (aO.tmp rfl aO.nil)) (fun w' hS=>?_)
   exact ⟨hS.ext,by subst h;rfl⟩
  have h13:op≠13:=by simpa using hc
  refine gS (gR ?_);refine aw bd ?_;refine ai ?_;refine gE ?_
  refine gC (fun hc=>?_) fun hc=>?_
  ·
   have h:op=14:=by simpa using hc
   refine gS (gR ?_)
   refine ab.v (ae.eP rfl rfl rfl rfl (bd122 (c:=[_,_,_,_,_,_,_]) rfl)) ?_
   refine ab.dD rfl rfl rfl rfl Jq 0 rfl rfl rfl rfl ?_
   refine ai ?_;refine gE ?_
   refine ab.fE Tryz.f105 JQ _ (aO.cell rfl JR Jq (j:=0) rfl rfl (aO.tmp rfl aO.nil)) (fun w' hS=>?_)
   exact ⟨hS.ext,by subst h;rfl⟩
  have h14:op≠14:=by simpa using hc
  refine gS (gR ?_);refine aw bd ?_;refine ai ?_;refine gE ?_
  refine gC (fun hc=>?_) fun hc=>?_
  ·
   have h:op=15:=by simpa using hc
   refine gS (gR ?_)
   refine ab.v (ae.eP rfl rfl rfl rfl (bd122 (c:=[_,_,_,_,_,_,_]) rfl)) ?_
   refine ab.dD rfl rfl rfl rfl Jq 0 rfl rfl rfl rfl ?_
   refine ai ?_;refine gE ?_
   refine ab.fE Tryz.f105 JQ _ (aO.cell rfl JR Jq (j:=0) rfl rfl (aO.tmp rfl aO.nil)) (fun w' hS=>?_)
   exact ⟨hS.ext,by subst h;rfl⟩
  have h15:op≠15:=by simpa using hc
  refine gS (gR ?_);refine aw bd ?_;refine ai ?_;refine gE ?_
  refine gC (fun hc=>?_) fun hc=>?_
  ·
   have h:op=16:=by simpa using hc
   refine gS (gR ?_)
   refine ab.v (ae.eP rfl rfl rfl rfl (bd122 (c:=[_,_,_,_,_,_,_]) rfl)) ?_
   refine ab.dD rfl rfl rfl rfl Jq 0 rfl rfl rfl rfl ?_
   refine ai ?_;refine gE ?_
   refine ab.fE Tryz.f105 JQ _ (aO.cell rfl JR Jq (j:=0) rfl rfl (aO.tmp rfl aO.nil)) (fun w' hS=>?_)
   exact ⟨hS.ext,by subst h;rfl⟩
  have h16:op≠16:=by simpa using hc
  refine gS (gR ?_);refine aw bd ?_;refine ai ?_;refine gE ?_
  refine gC (fun hc=>?_) fun hc=>?_
  ·
   have h:op=17:=by simpa using hc
   refine gS (gR ?_)
   refine ab.v (ae.eP rfl rfl rfl rfl (bd122 (c:=[_,_,_,_,_,_,_]) rfl)) ?_
   refine ab.dD rfl rfl rfl rfl Jq 0 rfl rfl rfl rfl ?_
   refine ai ?_;refine gE ?_
   refine ab.fE Tryz.f105 JQ _ (aO.cell rfl JR Jq (j:=0) rfl rfl (aO.tmp rfl aO.nil)) (fun w' hS=>?_)
   exact ⟨hS.ext,by subst h;rfl⟩
  have h17:op≠17:=by simpa using hc
  refine gS (gS (gR ?_));refine aw bd ?_;refine ai ?_;refine gE ?_
  refine gC (fun hc=>?_) fun hc=>?_
  ·
   have h:op=18:=by simpa using hc
   refine gK ?_
   refine ab.cond rfl (fun _=>?_) (fun hc=>by exfalso;simp [h] at hc)
   refine gS (gR ?_)
   refine ab.v (ae.eP rfl rfl rfl rfl (bd122 (c:=[_,_,_,_,_,_,_]) rfl)) ?_
   refine ab.dD rfl rfl rfl rfl Jq 0 rfl rfl rfl rfl ?_
   refine ai ?_;refine gE ?_
   refine ab.fE Tryz.f105 JQ _ (aO.cell rfl JR Jq (j:=0) rfl rfl (aO.tmp rfl aO.nil)) (fun w' hS=>?_)
   exact ⟨hS.ext,by subst h;rfl⟩
  have h18:op≠18:=by simpa using hc
  refine gR ?_;refine aw bd ?_;refine ai ?_;refine gE ?_
  refine gC (fun hc=>?_) fun hc=>?_
  ·
   have h:op=20:=by simpa using hc
   refine gS (gR ?_)
   refine ab.v (ae.eP rfl rfl rfl rfl (bd122 (c:=[_,_,_,_,_,_,_]) rfl)) ?_
   refine ab.dD rfl rfl rfl rfl Jq 0 rfl rfl rfl rfl ?_
   refine ai ?_;refine gE ?_
   refine ab.fE Tryz.f105 JQ _ (aO.cell rfl JR Jq (j:=0) rfl rfl (aO.tmp rfl aO.nil)) (fun w' hS=>?_)
   exact ⟨hS.ext,by subst h;rfl⟩
  have h20:op≠20:=by simpa using hc
  refine gS (gS (gR ?_));refine aw bd ?_;refine ai ?_;refine gE ?_
  refine gC (fun hc=>?_) fun hc=>?_
  ·
   have h:op=19:=by simpa using hc
   refine gK ?_
   refine ab.cond rfl (fun _=>?_) (fun hc=>by exfalso;simp [h] at hc)
   refine gS (gR ?_)
   refine ab.v (ae.eP rfl rfl rfl rfl (bd122 (c:=[_,_,_,_,_,_,_]) rfl)) ?_
   refine ab.dD rfl rfl rfl rfl Jq 0 rfl rfl rfl rfl ?_
   refine ai ?_;refine gE ?_
   refine ab.fE Tryz.f105 JQ _ (aO.cell rfl JR Jq (j:=0) rfl rfl (aO.tmp rfl aO.nil)) (fun w' hS=>?_)
   exact ⟨hS.ext,by subst h;rfl⟩
  have h19:op≠19:=by simpa using hc
  refine gR ?_;refine aw bd ?_;refine ai ?_;refine gE ?_
  refine gC (fun hc=>?_) fun hc=>?_
  ·
   have h:op=21:=by simpa using hc
   refine gS (gR ?_)
   refine ab.v (ae.eP rfl rfl rfl rfl (bd122 (c:=[_,_,_,_,_,_,_]) rfl)) ?_
   refine ab.dD rfl rfl rfl rfl Jq 0 rfl rfl rfl rfl ?_
   refine ai ?_;refine gE ?_
   refine ab.fE Tryz.f105 JQ _ (aO.cell rfl JR Jq (j:=0) rfl rfl (aO.tmp rfl aO.nil)) (fun w' hS=>?_)
   exact ⟨hS.ext,by subst h;rfl⟩
  have h21:op≠21:=by simpa using hc
  refine gK (dJ (gS (gR ?_)))
  refine ab.v (ae.eP rfl rfl rfl rfl (bd122 (c:=[_,_,_,_,_,_,_]) rfl)) ?_
  refine ab.dD rfl rfl rfl rfl Jq 0 rfl rfl rfl rfl ?_
  refine ai ?_;refine gE ?_
  refine ab.fE Tryz.f105 JQ _ (aO.cell rfl JR Jq (j:=0) rfl rfl (aO.tmp rfl aO.nil)) (fun w' hS=>?_)
  exact ⟨hS.ext,by rw [Ae (by omega),vy (by omega)];rfl⟩
theorem cd (u:Bool) (x at_:Int) (w:World):Cn Tryz.prog 148 [.bool u,.int .i64 x,.int .i64 at_] w (fun v _=>v=.bool (iM u x at_)):=by
  refine Cn.of func148 rfl rfl ?_
  refine gS (gR ?_);refine ai ?_;refine gE (gS (gR ?_))
  iterate 2 refine ah ?_
  refine eB 8 (fun hc=>?_) fun hc=>?_
  ·
   have hu:u=true:=hc
   subst hu
   refine ah ?_;refine aw oz ?_;refine cC ?_;refine ah ?_
   refine eB 12 (fun hc=>?_) fun hc=>?_
   ·
    have h1:0≤x:=by simpa using hc
    iterate 2 refine ah ?_
    refine aw iK ?_;refine cC ?_;refine ah ?_
    refine eB 17 (fun hc=>?_) fun hc=>?_
    ·
     have h2:x<at_:=by simpa using hc
     iterate 6 refine cz ?_
     refine cC ?_;refine ai ?_;refine gE ?_
     refine gT func148 fun w' hS=>?_
     exact ⟨hS.ext,by simp [iM,h1,h2,j5]⟩
    have h2:¬x<at_:=by simpa using hc
    refine ah ?_;refine eV bB ?_;refine ah ?_
    refine eB 20 (fun hc=>?_) fun hc=>?_
    ·
     simp at hc
    iterate 2 refine cz ?_
    iterate 2 refine bA ?_
    refine ai ?_;refine gE ?_
    refine gT func148 fun w' hS=>?_
    exact ⟨hS.ext,by simp [iM,h1,h2,j5]⟩
   have h1:¬0≤x:=by simpa using hc
   iterate 3 refine cz ?_
   refine bA ?_
   iterate 2 refine ah ?_
   refine eV bB ?_;refine ah ?_
   refine eB 20 (fun hc=>?_) fun hc=>?_
   ·
    simp at hc
   iterate 2 refine cz ?_
   iterate 2 refine bA ?_
   refine ai ?_;refine gE ?_
   refine gT func148 fun w' hS=>?_
   exact ⟨hS.ext,by simp [iM,h1,j5]⟩
  have hu:u=false:=hc
  subst hu
  iterate 2 refine cz ?_
  refine bA ?_;refine ah ?_
  iterate 3 refine cz ?_
  refine bA ?_
  iterate 2 refine ah ?_
  refine eV bB ?_;refine ah ?_
  refine eB 20 (fun hc=>?_) fun hc=>?_
  ·
   refine ah ?_;refine aw bd ?_;refine cC ?_;refine bA ?_;refine ai ?_;refine gE ?_
   refine gT func148 fun w' hS=>?_
   exact ⟨hS.ext,by simp [iM,j5]⟩
  simp at hc
theorem bS (u:Bool) (x lo hi:Int) (w:World):Cn Tryz.prog 149 [.bool u,.int .i64 x,.int .i64 lo,.int .i64 hi] w (fun v _=>v=.bool (kJ u x lo hi)):=by
  refine Cn.of func149 rfl rfl ?_
  refine gS (gR ?_);refine ai ?_;refine gE (gS (gR ?_))
  iterate 2 refine ah ?_
  refine eB 10 (fun hc=>?_) fun hc=>?_
  ·
   have hu:u=true:=hc
   subst hu
   iterate 2 refine ah ?_
   refine aw iK ?_;refine ah ?_
   refine eB 14 (fun hc=>?_) fun hc=>?_
   ·
    have h1:x<lo:=by simpa using hc
    iterate 3 refine cz ?_
    iterate 2 refine cC ?_
    refine ai ?_;refine gE ?_
    refine gT func149 fun w' hS=>?_
    exact ⟨hS.ext,by simp [kJ,h1,j5]⟩
   have h1:¬x<lo:=by simpa using hc
   iterate 2 refine ah ?_
   refine aw u5 ?_;refine bA ?_;refine cC ?_;refine ai ?_;refine gE ?_
   refine gT func149 fun w' hS=>?_
   exact ⟨hS.ext,by simp [kJ,h1,j5]⟩
  have hu:u=false:=hc
  subst hu
  iterate 8 refine cz ?_
  refine bA ?_;refine ai ?_;refine gE ?_
  refine gT func149 fun w' hS=>?_
  exact ⟨hS.ext,by simp [kJ,j5]⟩
set_option maxRecDepth 4000 in
theorem qY (n:NV) (at_ fr:Int) (w:World) (hop:1≤n.op∧n.op≤21) (hX:cD n.op=false) (hY:cn n.op=false) (h3:(n.op==3)=false) (hA:o8 n.op=false) (h17:(n.op==17)=false) (hG:lS n.op=false) (hU:qR n.op=.agg #[.bool false,.bool false,.bool false,.bool false,.bool false,.bool false,.int .i64 fr]) (hK:okO n.op=true):
    Cn Tryz.prog 102 [n.v,.int .i64 at_] w (fun v _=>v=.int .i64 (aK n at_)):=by
  refine Cn.of Jp rfl rfl ?_
  refine gS (gR ?_)
  refine ab.bx rfl rfl rfl rfl (fun b2=>?_)
  refine ai ?_;refine gE (gS (gR ?_));refine al Jg Je 0 ?_;refine aq Jf 0 ?_
  refine gP rfl rfl rfl rfl rfl call105 (fun w _ hS=>(by have:=gV n.op w;rw [hU,hK] at this;exact this)) ?_
  refine ah ?_
  iterate 2 refine gh ?_
  refine ab.eK rfl rfl rfl (fun _=>J4 _) (fun b5=>?_)
  refine ab.dD rfl rfl rfl rfl Jq 0 rfl rfl rfl rfl ?_
  refine ai ?_;refine gE (gS (gS (gR ?_)));refine ah ?_;refine eV bB ?_;refine gE ?_
  refine ab.cond rfl (fun hc=>by exfalso;simp at hc) (fun _=>?_)
  refine gK (gS (gS (gR ?_)));refine al Jk Jh 0 ?_;refine aq Jj 0 ?_;refine al Jg Je 4 ?_;refine aq Jf 1 ?_;refine ah ?_
  refine gP rfl rfl rfl rfl rfl JY (fun w _ hS=>(by exact cd false n.x at_ w)) ?_
  refine eV bB ?_;refine ah ?_
  refine eB 23 (fun hc=>?_) fun hc=>?_
  ·
   have hb:iM (cD n.op) n.x at_=false:=by rw [hX];simpa using hc
   iterate 7 refine cz ?_
   refine cC ?_;refine gE (ab.bV rfl (gS (gR ?_)));refine ai ?_;refine gE ?_
   refine gT Jp fun w' hS=>?_
   exact ⟨hS.ext,by rw [show aK n at_=3 from iS hop hb];rfl⟩
  have hox:iM (cD n.op) n.x at_=true:=by rw [hX];simpa using hc
  refine al Jk Jh 1 ?_;refine aq Jj 0 ?_;refine al Jg Je 5 ?_;refine aq Jf 1 ?_;refine ah ?_
  refine gP rfl rfl rfl rfl rfl JY (fun w _ hS=>(by exact cd false n.y at_ w)) ?_
  refine eV bB ?_;refine bA ?_;refine gE ?_
  refine gC (fun hc=>?_) fun hc=>?_
  ·
   have hb:iM (cn n.op) n.y at_=false:=by rw [hY];simpa using hc
   refine gS (gR ?_);refine ai ?_;refine gE ?_
   refine gT Jp fun w' hS=>?_
   exact ⟨hS.ext,by rw [show aK n at_=3 from iR hop hb];rfl⟩
  have hoy:iM (cn n.op) n.y at_=true:=by rw [hY];simpa using hc
  refine gK (gS (gS (gR ?_)));refine al Jk Jh 2 ?_;refine aq Jj 0 ?_;refine ah ?_;refine al Jk Jh 3 ?_;refine aq Jj 0 ?_;refine bA ?_;refine ah ?_;refine al Jk Jh 5 ?_;refine aq Jj 0 ?_;refine bA ?_;refine eV bB ?_;refine ah ?_;refine al Jg Je 1 ?_
  refine aq Jf 1 ?_;refine aw gO ?_;refine cC ?_;refine ah ?_
  refine eB 48 (fun hc=>?_) fun hc=>?_
  ·
   have hb:n.i≠0:=by simpa using hc
   iterate 8 refine cz ?_
   refine cC ?_;refine ah ?_
   iterate 8 refine cz ?_
   refine cC ?_;refine gE (ab.bV rfl (gS (gR ?_)));refine ai ?_;refine gE ?_
   refine gT Jp fun w' hS=>?_
   exact ⟨hS.ext,by rw [show aK n at_=3 from (aY hop hox hoy).trans (eC (by simp [iO,bne,h3,h17,hA,hG];omega))];rfl⟩
  have hzi:n.i=0:=by simpa using hc
  refine al Jk Jh 5 ?_;refine aq Jj 0 ?_;refine eV bB ?_;refine ah ?_;refine al Jg Je 2 ?_;refine aq Jf 1 ?_;refine aw gO ?_;refine cC ?_;refine bA ?_;refine ah ?_
  refine eB 58 (fun hc=>?_) fun hc=>?_
  ·
   have hb:n.e≠0:=by simpa using hc
   iterate 8 refine cz ?_
   refine cC ?_;refine gE (ab.bV rfl (gS (gR ?_)));refine ai ?_;refine gE ?_
   refine gT Jp fun w' hS=>?_
   exact ⟨hS.ext,by rw [show aK n at_=3 from (aY hop hox hoy).trans (eC (by simp [iO,bne,h3,h17,hA,hG];omega))];rfl⟩
  have hze:n.e=0:=by simpa using hc
  refine al Jk Jh 4 ?_;refine aq Jj 0 ?_;refine eV bB ?_;refine ah ?_;refine al Jg Je 3 ?_;refine aq Jf 1 ?_;refine aw gO ?_;refine cC ?_;refine bA ?_;refine gE ?_
  refine gC (fun hc=>?_) fun hc=>?_
  ·
   have hb:n.g≠0:=by simpa using hc
   refine gS (gR ?_);refine ai ?_;refine gE ?_
   refine gT Jp fun w' hS=>?_
   exact ⟨hS.ext,by rw [show aK n at_=3 from (aY hop hox hoy).trans (eC (by simp [iO,bne,h3,h17,hA,hG];omega))];rfl⟩
  have hzg:n.g=0:=by simpa using hc
  have hfa:(!iO n.op && n.i !=0||n.op !=17 && n.e !=0||!lS n.op && n.g !=0)=false:=by simp [iO,bne,h3,h17,hA,hG];omega
  refine gK (gS (gR ?_));refine ai ?_;refine gE (gS (gS (gR ?_)));refine ah ?_;refine al Jk Jh 2 ?_;refine aq Jj 0 ?_;refine al Jg Je 1 ?_;refine aq Jf 1 ?_
  refine gP rfl rfl rfl rfl rfl Jx (fun w _ hS=>(by exact bS false n.i 0 7 w)) ?_
  iterate 2 refine ah ?_
  refine al Jk Jh 3 ?_;refine aq Jj 0 ?_;refine al Jg Je 1 ?_;refine aq Jf 1 ?_
  refine gP rfl rfl rfl rfl rfl Jx (fun w _ hS=>(by exact bS false n.i 0 3 w)) ?_
  refine bA ?_
  iterate 2 refine ah ?_
  refine al Jk Jh 5 ?_;refine aq Jj 0 ?_;refine al Jg Je 1 ?_;refine aq Jf 1 ?_
  refine gP rfl rfl rfl rfl rfl Jx (fun w _ hS=>(by exact bS false n.i 0 7 w)) ?_
  refine bA ?_
  iterate 2 refine ah ?_
  refine al Jk Jh 5 ?_;refine aq Jj 0 ?_;refine al Jg Je 2 ?_;refine aq Jf 1 ?_
  refine gP rfl rfl rfl rfl rfl Jx (fun w _ hS=>(by exact bS false n.e 0 7 w)) ?_
  refine bA ?_
  iterate 2 refine ah ?_
  refine al Jk Jh 4 ?_;refine aq Jj 0 ?_;refine al Jg Je 3 ?_;refine aq Jf 1 ?_
  refine gP rfl rfl rfl rfl rfl Jx (fun w _ hS=>(by exact bS false n.g 1 15 w)) ?_
  refine bA ?_;refine gE (ab.fQ rfl (gK (gS (gR ?_))));refine ai ?_;refine gE ?_
  refine gT Jp fun w' hS=>?_
  exact ⟨hS.ext,by rw [show aK n at_=0 from (aY hop hox hoy).trans (kE hfa (by simp [h3,h17,hA,hG]))];rfl⟩
set_option maxRecDepth 4000 in
theorem wK (n:NV) (at_ fr:Int) (w:World) (hop:1≤n.op∧n.op≤21) (hX:cD n.op=false) (hY:cn n.op=false) (h3:(n.op==3)=true) (hA:o8 n.op=false) (h17:(n.op==17)=false) (hG:lS n.op=false) (hU:qR n.op=.agg #[.bool false,.bool false,.bool true,.bool false,.bool false,.bool false,.int .i64 fr]) (hK:okO n.op=true):
    Cn Tryz.prog 102 [n.v,.int .i64 at_] w (fun v _=>v=.int .i64 (aK n at_)):=by
  refine Cn.of Jp rfl rfl ?_
  refine gS (gR ?_)
  refine ab.bx rfl rfl rfl rfl (fun b2=>?_)
  refine ai ?_;refine gE (gS (gR ?_));refine al Jg Je 0 ?_;refine aq Jf 0 ?_
  refine gP rfl rfl rfl rfl rfl call105 (fun w _ hS=>(by have:=gV n.op w;rw [hU,hK] at this;exact this)) ?_
  refine ah ?_
  iterate 2 refine gh ?_
  refine ab.eK rfl rfl rfl (fun _=>J4 _) (fun b5=>?_)
  refine ab.dD rfl rfl rfl rfl Jq 0 rfl rfl rfl rfl ?_
  refine ai ?_;refine gE (gS (gS (gR ?_)));refine ah ?_;refine eV bB ?_;refine gE ?_
  refine ab.cond rfl (fun hc=>by exfalso;simp at hc) (fun _=>?_)
  refine gK (gS (gS (gR ?_)));refine al Jk Jh 0 ?_;refine aq Jj 0 ?_;refine al Jg Je 4 ?_;refine aq Jf 1 ?_;refine ah ?_
  refine gP rfl rfl rfl rfl rfl JY (fun w _ hS=>(by exact cd false n.x at_ w)) ?_
  refine eV bB ?_;refine ah ?_
  refine eB 23 (fun hc=>?_) fun hc=>?_
  ·
   have hb:iM (cD n.op) n.x at_=false:=by rw [hX];simpa using hc
   iterate 7 refine cz ?_
   refine cC ?_;refine gE (ab.bV rfl (gS (gR ?_)));refine ai ?_;refine gE ?_
   refine gT Jp fun w' hS=>?_
   exact ⟨hS.ext,by rw [show aK n at_=3 from iS hop hb];rfl⟩
  have hox:iM (cD n.op) n.x at_=true:=by rw [hX];simpa using hc
  refine al Jk Jh 1 ?_;refine aq Jj 0 ?_;refine al Jg Je 5 ?_;refine aq Jf 1 ?_;refine ah ?_
  refine gP rfl rfl rfl rfl rfl JY (fun w _ hS=>(by exact cd false n.y at_ w)) ?_
  refine eV bB ?_;refine bA ?_;refine gE ?_
  refine gC (fun hc=>?_) fun hc=>?_
  ·
   have hb:iM (cn n.op) n.y at_=false:=by rw [hY];simpa using hc
   refine gS (gR ?_);refine ai ?_;refine gE ?_
   refine gT Jp fun w' hS=>?_
   exact ⟨hS.ext,by rw [show aK n at_=3 from iR hop hb];rfl⟩
  have hoy:iM (cn n.op) n.y at_=true:=by rw [hY];simpa using hc
  refine gK (gS (gS (gR ?_)));refine al Jk Jh 2 ?_;refine aq Jj 0 ?_;refine ah ?_
  iterate 2 refine cz ?_
  refine cC ?_;refine ah ?_
  iterate 2 refine cz ?_
  refine cC ?_;refine eV bB ?_;refine ah ?_
  iterate 3 refine cz ?_
  refine bA ?_;refine ah ?_;refine al Jk Jh 5 ?_;refine aq Jj 0 ?_;refine eV bB ?_;refine ah ?_;refine al Jg Je 2 ?_;refine aq Jf 1 ?_;refine aw gO ?_;refine cC ?_;refine bA ?_;refine ah ?_
  refine eB 58 (fun hc=>?_) fun hc=>?_
  ·
   have hb:n.e≠0:=by simpa using hc
   iterate 8 refine cz ?_
   refine cC ?_;refine gE (ab.bV rfl (gS (gR ?_)));refine ai ?_;refine gE ?_
   refine gT Jp fun w' hS=>?_
   exact ⟨hS.ext,by rw [show aK n at_=3 from (aY hop hox hoy).trans (eC (by simp [iO,bne,h3,h17,hA,hG];omega))];rfl⟩
  have hze:n.e=0:=by simpa using hc
  refine al Jk Jh 4 ?_;refine aq Jj 0 ?_;refine eV bB ?_;refine ah ?_;refine al Jg Je 3 ?_;refine aq Jf 1 ?_;refine aw gO ?_;refine cC ?_;refine bA ?_;refine gE ?_
  refine gC (fun hc=>?_) fun hc=>?_
  ·
   have hb:n.g≠0:=by simpa using hc
   refine gS (gR ?_);refine ai ?_;refine gE ?_
   refine gT Jp fun w' hS=>?_
   exact ⟨hS.ext,by rw [show aK n at_=3 from (aY hop hox hoy).trans (eC (by simp [iO,bne,h3,h17,hA,hG];omega))];rfl⟩
  have hzg:n.g=0:=by simpa using hc
  have hfa:(!iO n.op && n.i !=0||n.op !=17 && n.e !=0||!lS n.op && n.g !=0)=false:=by simp [iO,bne,h3,h17,hA,hG];omega
  refine gK (gS (gR ?_));refine ai ?_;refine gE (gS (gS (gR ?_)));refine ah ?_;refine al Jk Jh 2 ?_;refine aq Jj 0 ?_;refine al Jg Je 1 ?_;refine aq Jf 1 ?_
  refine gP rfl rfl rfl rfl rfl Jx (fun w _ hS=>(by exact bS true n.i 0 7 w)) ?_
  refine ah ?_
  refine eB 74 (fun hc=>?_) fun hc=>?_
  ·
   have hb:n.i<0∨7<n.i:=by simpa [kJ] using hc
   iterate 6 refine cz ?_
   refine cC ?_;refine ah ?_
   iterate 6 refine cz ?_
   refine cC ?_;refine ah ?_
   iterate 6 refine cz ?_
   refine cC ?_;refine ah ?_
   iterate 6 refine cz ?_
   refine cC ?_;refine gE (ab.bV rfl (gS (gR ?_)));refine ai ?_;refine gE ?_
   refine gT Jp fun w' hS=>?_
   exact ⟨hS.ext,by rw [show aK n at_=2 from (aY hop hox hoy).trans (mo hfa (by simp [h3,h17,hA,hG];omega))];rfl⟩
  have hr3:0≤n.i∧n.i≤7:=by simpa [kJ] using hc
  refine ah ?_;refine al Jk Jh 3 ?_;refine aq Jj 0 ?_;refine al Jg Je 1 ?_;refine aq Jf 1 ?_
  refine gP rfl rfl rfl rfl rfl Jx (fun w _ hS=>(by exact bS false n.i 0 3 w)) ?_
  refine bA ?_
  iterate 2 refine ah ?_
  refine al Jk Jh 5 ?_;refine aq Jj 0 ?_;refine al Jg Je 1 ?_;refine aq Jf 1 ?_
  refine gP rfl rfl rfl rfl rfl Jx (fun w _ hS=>(by exact bS false n.i 0 7 w)) ?_
  refine bA ?_
  iterate 2 refine ah ?_
  refine al Jk Jh 5 ?_;refine aq Jj 0 ?_;refine al Jg Je 2 ?_;refine aq Jf 1 ?_
  refine gP rfl rfl rfl rfl rfl Jx (fun w _ hS=>(by exact bS false n.e 0 7 w)) ?_
  refine bA ?_
  iterate 2 refine ah ?_
  refine al Jk Jh 4 ?_;refine aq Jj 0 ?_;refine al Jg Je 3 ?_;refine aq Jf 1 ?_
  refine gP rfl rfl rfl rfl rfl Jx (fun w _ hS=>(by exact bS false n.g 1 15 w)) ?_
  refine bA ?_;refine gE (ab.fQ rfl (gK (gS (gR ?_))));refine ai ?_;refine gE ?_
  refine gT Jp fun w' hS=>?_
  exact ⟨hS.ext,by rw [show aK n at_=0 from (aY hop hox hoy).trans (kE hfa (by simp [h3,h17,hA,hG];omega))];rfl⟩
set_option maxRecDepth 4000 in
theorem pJ (n:NV) (at_ fr:Int) (w:World) (hop:1≤n.op∧n.op≤21) (hX:cD n.op=true) (hY:cn n.op=false) (h3:(n.op==3)=false) (hA:o8 n.op=false) (h17:(n.op==17)=false) (hG:lS n.op=false) (hU:qR n.op=.agg #[.bool true,.bool false,.bool false,.bool false,.bool false,.bool false,.int .i64 fr]) (hK:okO n.op=true):
    Cn Tryz.prog 102 [n.v,.int .i64 at_] w (fun v _=>v=.int .i64 (aK n at_)):=by
  refine Cn.of Jp rfl rfl ?_
  refine gS (gR ?_)
  refine ab.bx rfl rfl rfl rfl (fun b2=>?_)
  refine ai ?_;refine gE (gS (gR ?_));refine al Jg Je 0 ?_;refine aq Jf 0 ?_
  refine gP rfl rfl rfl rfl rfl call105 (fun w _ hS=>(by have:=gV n.op w;rw [hU,hK] at this;exact this)) ?_
  refine ah ?_
  iterate 2 refine gh ?_
  refine ab.eK rfl rfl rfl (fun _=>J4 _) (fun b5=>?_)
  refine ab.dD rfl rfl rfl rfl Jq 0 rfl rfl rfl rfl ?_
  refine ai ?_;refine gE (gS (gS (gR ?_)));refine ah ?_;refine eV bB ?_;refine gE ?_
  refine ab.cond rfl (fun hc=>by exfalso;simp at hc) (fun _=>?_)
  refine gK (gS (gS (gR ?_)));refine al Jk Jh 0 ?_;refine aq Jj 0 ?_;refine al Jg Je 4 ?_;refine aq Jf 1 ?_;refine ah ?_
  refine gP rfl rfl rfl rfl rfl JY (fun w _ hS=>(by exact cd true n.x at_ w)) ?_
  refine eV bB ?_;refine ah ?_
  refine eB 23 (fun hc=>?_) fun hc=>?_
  ·
   have hb:iM (cD n.op) n.x at_=false:=by rw [hX];simpa using hc
   iterate 7 refine cz ?_
   refine cC ?_;refine gE (ab.bV rfl (gS (gR ?_)));refine ai ?_;refine gE ?_
   refine gT Jp fun w' hS=>?_
   exact ⟨hS.ext,by rw [show aK n at_=3 from iS hop hb];rfl⟩
  have hox:iM (cD n.op) n.x at_=true:=by rw [hX];simpa using hc
  refine al Jk Jh 1 ?_;refine aq Jj 0 ?_;refine al Jg Je 5 ?_;refine aq Jf 1 ?_;refine ah ?_
  refine gP rfl rfl rfl rfl rfl JY (fun w _ hS=>(by exact cd false n.y at_ w)) ?_
  refine eV bB ?_;refine bA ?_;refine gE ?_
  refine gC (fun hc=>?_) fun hc=>?_
  ·
   have hb:iM (cn n.op) n.y at_=false:=by rw [hY];simpa using hc
   refine gS (gR ?_);refine ai ?_;refine gE ?_
   refine gT Jp fun w' hS=>?_
   exact ⟨hS.ext,by rw [show aK n at_=3 from iR hop hb];rfl⟩
  have hoy:iM (cn n.op) n.y at_=true:=by rw [hY];simpa using hc
  refine gK (gS (gS (gR ?_)));refine al Jk Jh 2 ?_;refine aq Jj 0 ?_;refine ah ?_;refine al Jk Jh 3 ?_;refine aq Jj 0 ?_;refine bA ?_;refine ah ?_;refine al Jk Jh 5 ?_;refine aq Jj 0 ?_;refine bA ?_;refine eV bB ?_;refine ah ?_;refine al Jg Je 1 ?_
  refine aq Jf 1 ?_;refine aw gO ?_;refine cC ?_;refine ah ?_
  refine eB 48 (fun hc=>?_) fun hc=>?_
  ·
   have hb:n.i≠0:=by simpa using hc
   iterate 8 refine cz ?_
   refine cC ?_;refine ah ?_
   iterate 8 refine cz ?_
   refine cC ?_;refine gE (ab.bV rfl (gS (gR ?_)));refine ai ?_;refine gE ?_
   refine gT Jp fun w' hS=>?_
   exact ⟨hS.ext,by rw [show aK n at_=3 from (aY hop hox hoy).trans (eC (by simp [iO,bne,h3,h17,hA,hG];omega))];rfl⟩
  have hzi:n.i=0:=by simpa using hc
  refine al Jk Jh 5 ?_;refine aq Jj 0 ?_;refine eV bB ?_;refine ah ?_;refine al Jg Je 2 ?_;refine aq Jf 1 ?_;refine aw gO ?_;refine cC ?_;refine bA ?_;refine ah ?_
  refine eB 58 (fun hc=>?_) fun hc=>?_
  ·
   have hb:n.e≠0:=by simpa using hc
   iterate 8 refine cz ?_
   refine cC ?_;refine gE (ab.bV rfl (gS (gR ?_)));refine ai ?_;refine gE ?_
   refine gT Jp fun w' hS=>?_
   exact ⟨hS.ext,by rw [show aK n at_=3 from (aY hop hox hoy).trans (eC (by simp [iO,bne,h3,h17,hA,hG];omega))];rfl⟩
  have hze:n.e=0:=by simpa using hc
  refine al Jk Jh 4 ?_;refine aq Jj 0 ?_;refine eV bB ?_;refine ah ?_;refine al Jg Je 3 ?_;refine aq Jf 1 ?_;refine aw gO ?_;refine cC ?_;refine bA ?_;refine gE ?_
  refine gC (fun hc=>?_) fun hc=>?_
  ·
   have hb:n.g≠0:=by simpa using hc
   refine gS (gR ?_);refine ai ?_;refine gE ?_
   refine gT Jp fun w' hS=>?_
   exact ⟨hS.ext,by rw [show aK n at_=3 from (aY hop hox hoy).trans (eC (by simp [iO,bne,h3,h17,hA,hG];omega))];rfl⟩
  have hzg:n.g=0:=by simpa using hc
  have hfa:(!iO n.op && n.i !=0||n.op !=17 && n.e !=0||!lS n.op && n.g !=0)=false:=by simp [iO,bne,h3,h17,hA,hG];omega
  refine gK (gS (gR ?_));refine ai ?_;refine gE (gS (gS (gR ?_)));refine ah ?_;refine al Jk Jh 2 ?_;refine aq Jj 0 ?_;refine al Jg Je 1 ?_;refine aq Jf 1 ?_
  refine gP rfl rfl rfl rfl rfl Jx (fun w _ hS=>(by exact bS false n.i 0 7 w)) ?_
  iterate 2 refine ah ?_
  refine al Jk Jh 3 ?_;refine aq Jj 0 ?_;refine al Jg Je 1 ?_;refine aq Jf 1 ?_
  refine gP rfl rfl rfl rfl rfl Jx (fun w _ hS=>(by exact bS false n.i 0 3 w)) ?_
  refine bA ?_
  iterate 2 refine ah ?_
  refine al Jk Jh 5 ?_;refine aq Jj 0 ?_;refine al Jg Je 1 ?_;refine aq Jf 1 ?_
  refine gP rfl rfl rfl rfl rfl Jx (fun w _ hS=>(by exact bS false n.i 0 7 w)) ?_
  refine bA ?_
  iterate 2 refine ah ?_
  refine al Jk Jh 5 ?_;refine aq Jj 0 ?_;refine al Jg Je 2 ?_;refine aq Jf 1 ?_
  refine gP rfl rfl rfl rfl rfl Jx (fun w _ hS=>(by exact bS false n.e 0 7 w)) ?_
  refine bA ?_
  iterate 2 refine ah ?_
  refine al Jk Jh 4 ?_;refine aq Jj 0 ?_;refine al Jg Je 3 ?_;refine aq Jf 1 ?_
  refine gP rfl rfl rfl rfl rfl Jx (fun w _ hS=>(by exact bS false n.g 1 15 w)) ?_
  refine bA ?_;refine gE (ab.fQ rfl (gK (gS (gR ?_))));refine ai ?_;refine gE ?_
  refine gT Jp fun w' hS=>?_
  exact ⟨hS.ext,by rw [show aK n at_=0 from (aY hop hox hoy).trans (kE hfa (by simp [h3,h17,hA,hG]))];rfl⟩
set_option maxRecDepth 4000 in
theorem je (n:NV) (at_ fr:Int) (w:World) (hop:1≤n.op∧n.op≤21) (hX:cD n.op=true) (hY:cn n.op=true) (h3:(n.op==3)=false) (hA:o8 n.op=false) (h17:(n.op==17)=false) (hG:lS n.op=false) (hU:qR n.op=.agg #[.bool true,.bool true,.bool false,.bool false,.bool false,.bool false,.int .i64 fr]) (hK:okO n.op=true):
    Cn Tryz.prog 102 [n.v,.int .i64 at_] w (fun v _=>v=.int .i64 (aK n at_)):=by
  refine Cn.of Jp rfl rfl ?_
  refine gS (gR ?_)
  refine ab.bx rfl rfl rfl rfl (fun b2=>?_)
  refine ai ?_;refine gE (gS (gR ?_));refine al Jg Je 0 ?_;refine aq Jf 0 ?_
  refine gP rfl rfl rfl rfl rfl call105 (fun w _ hS=>(by have:=gV n.op w;rw [hU,hK] at this;exact this)) ?_
  refine ah ?_
  iterate 2 refine gh ?_
  refine ab.eK rfl rfl rfl (fun _=>J4 _) (fun b5=>?_)
  refine ab.dD rfl rfl rfl rfl Jq 0 rfl rfl rfl rfl ?_
  refine ai ?_;refine gE (gS (gS (gR ?_)));refine ah ?_;refine eV bB ?_;refine gE ?_
  refine ab.cond rfl (fun hc=>by exfalso;simp at hc) (fun _=>?_)
  refine gK (gS (gS (gR ?_)));refine al Jk Jh 0 ?_;refine aq Jj 0 ?_;refine al Jg Je 4 ?_;refine aq Jf 1 ?_;refine ah ?_
  refine gP rfl rfl rfl rfl rfl JY (fun w _ hS=>(by exact cd true n.x at_ w)) ?_
  refine eV bB ?_;refine ah ?_
  refine eB 23 (fun hc=>?_) fun hc=>?_
  ·
   have hb:iM (cD n.op) n.x at_=false:=by rw [hX];simpa using hc
   iterate 7 refine cz ?_
   refine cC ?_;refine gE (ab.bV rfl (gS (gR ?_)));refine ai ?_;refine gE ?_
   refine gT Jp fun w' hS=>?_
   exact ⟨hS.ext,by rw [show aK n at_=3 from iS hop hb];rfl⟩
  have hox:iM (cD n.op) n.x at_=true:=by rw [hX];simpa using hc
  refine al Jk Jh 1 ?_;refine aq Jj 0 ?_;refine al Jg Je 5 ?_;refine aq Jf 1 ?_;refine ah ?_
  refine gP rfl rfl rfl rfl rfl JY (fun w _ hS=>(by exact cd true n.y at_ w)) ?_
  refine eV bB ?_;refine bA ?_;refine gE ?_
  refine gC (fun hc=>?_) fun hc=>?_
  ·
   have hb:iM (cn n.op) n.y at_=false:=by rw [hY];simpa using hc
   refine gS (gR ?_);refine ai ?_;refine gE ?_
   refine gT Jp fun w' hS=>?_
   exact ⟨hS.ext,by rw [show aK n at_=3 from iR hop hb];rfl⟩
  have hoy:iM (cn n.op) n.y at_=true:=by rw [hY];simpa using hc
  refine gK (gS (gS (gR ?_)));refine al Jk Jh 2 ?_;refine aq Jj 0 ?_;refine ah ?_;refine al Jk Jh 3 ?_;refine aq Jj 0 ?_;refine bA ?_;refine ah ?_;refine al Jk Jh 5 ?_;refine aq Jj 0 ?_;refine bA ?_;refine eV bB ?_;refine ah ?_;refine al Jg Je 1 ?_
  refine aq Jf 1 ?_;refine aw gO ?_;refine cC ?_;refine ah ?_
  refine eB 48 (fun hc=>?_) fun hc=>?_
  ·
   have hb:n.i≠0:=by simpa using hc
   iterate 8 refine cz ?_
   refine cC ?_;refine ah ?_
   iterate 8 refine cz ?_
   refine cC ?_;refine gE (ab.bV rfl (gS (gR ?_)));refine ai ?_;refine gE ?_
   refine gT Jp fun w' hS=>?_
   exact ⟨hS.ext,by rw [show aK n at_=3 from (aY hop hox hoy).trans (eC (by simp [iO,bne,h3,h17,hA,hG];omega))];rfl⟩
  have hzi:n.i=0:=by simpa using hc
  refine al Jk Jh 5 ?_;refine aq Jj 0 ?_;refine eV bB ?_;refine ah ?_;refine al Jg Je 2 ?_;refine aq Jf 1 ?_;refine aw gO ?_;refine cC ?_;refine bA ?_;refine ah ?_
  refine eB 58 (fun hc=>?_) fun hc=>?_
  ·
   have hb:n.e≠0:=by simpa using hc
   iterate 8 refine cz ?_
   refine cC ?_;refine gE (ab.bV rfl (gS (gR ?_)));refine ai ?_;refine gE ?_
   refine gT Jp fun w' hS=>?_
   exact ⟨hS.ext,by rw [show aK n at_=3 from (aY hop hox hoy).trans (eC (by simp [iO,bne,h3,h17,hA,hG];omega))];rfl⟩
  have hze:n.e=0:=by simpa using hc
  refine al Jk Jh 4 ?_;refine aq Jj 0 ?_;refine eV bB ?_;refine ah ?_;refine al Jg Je 3 ?_;refine aq Jf 1 ?_;refine aw gO ?_;refine cC ?_;refine bA ?_;refine gE ?_
  refine gC (fun hc=>?_) fun hc=>?_
  ·
   have hb:n.g≠0:=by simpa using hc
   refine gS (gR ?_);refine ai ?_;refine gE ?_
   refine gT Jp fun w' hS=>?_
   exact ⟨hS.ext,by rw [show aK n at_=3 from (aY hop hox hoy).trans (eC (by simp [iO,bne,h3,h17,hA,hG];omega))];rfl⟩
  have hzg:n.g=0:=by simpa using hc
  have hfa:(!iO n.op && n.i !=0||n.op !=17 && n.e !=0||!lS n.op && n.g !=0)=false:=by simp [iO,bne,h3,h17,hA,hG];omega
  refine gK (gS (gR ?_));refine ai ?_;refine gE (gS (gS (gR ?_)));refine ah ?_;refine al Jk Jh 2 ?_;refine aq Jj 0 ?_;refine al Jg Je 1 ?_;refine aq Jf 1 ?_
  refine gP rfl rfl rfl rfl rfl Jx (fun w _ hS=>(by exact bS false n.i 0 7 w)) ?_
  iterate 2 refine ah ?_
  refine al Jk Jh 3 ?_;refine aq Jj 0 ?_;refine al Jg Je 1 ?_;refine aq Jf 1 ?_
  refine gP rfl rfl rfl rfl rfl Jx (fun w _ hS=>(by exact bS false n.i 0 3 w)) ?_
  refine bA ?_
  iterate 2 refine ah ?_
  refine al Jk Jh 5 ?_;refine aq Jj 0 ?_;refine al Jg Je 1 ?_;refine aq Jf 1 ?_
  refine gP rfl rfl rfl rfl rfl Jx (fun w _ hS=>(by exact bS false n.i 0 7 w)) ?_
  refine bA ?_
  iterate 2 refine ah ?_
  refine al Jk Jh 5 ?_;refine aq Jj 0 ?_;refine al Jg Je 2 ?_;refine aq Jf 1 ?_
  refine gP rfl rfl rfl rfl rfl Jx (fun w _ hS=>(by exact bS false n.e 0 7 w)) ?_
  refine bA ?_
  iterate 2 refine ah ?_
  refine al Jk Jh 4 ?_;refine aq Jj 0 ?_;refine al Jg Je 3 ?_;refine aq Jf 1 ?_
  refine gP rfl rfl rfl rfl rfl Jx (fun w _ hS=>(by exact bS false n.g 1 15 w)) ?_
  refine bA ?_;refine gE (ab.fQ rfl (gK (gS (gR ?_))));refine ai ?_;refine gE ?_
  refine gT Jp fun w' hS=>?_
  exact ⟨hS.ext,by rw [show aK n at_=0 from (aY hop hox hoy).trans (kE hfa (by simp [h3,h17,hA,hG]))];rfl⟩
set_option maxRecDepth 4000 in
theorem nM (n:NV) (at_ fr:Int) (w:World) (hop:1≤n.op∧n.op≤21) (hX:cD n.op=true) (hY:cn n.op=false) (h3:(n.op==3)=false) (hA:o8 n.op=true) (h17:(n.op==17)=false) (hG:lS n.op=false) (hU:qR n.op=.agg #[.bool true,.bool false,.bool false,.bool true,.bool false,.bool false,.int .i64 fr]) (hK:okO n.op=true):
    Cn Tryz.prog 102 [n.v,.int .i64 at_] w (fun v _=>v=.int .i64 (aK n at_)):=by
  refine Cn.of Jp rfl rfl ?_
  refine gS (gR ?_)
  refine ab.bx rfl rfl rfl rfl (fun b2=>?_)
  refine ai ?_;refine gE (gS (gR ?_));refine al Jg Je 0 ?_;refine aq Jf 0 ?_
  refine gP rfl rfl rfl rfl rfl call105 (fun w _ hS=>(by have:=gV n.op w;rw [hU,hK] at this;exact this)) ?_
  refine ah ?_
  iterate 2 refine gh ?_
  refine ab.eK rfl rfl rfl (fun _=>J4 _) (fun b5=>?_)
  refine ab.dD rfl rfl rfl rfl Jq 0 rfl rfl rfl rfl ?_
  refine ai ?_;refine gE (gS (gS (gR ?_)));refine ah ?_;refine eV bB ?_;refine gE ?_
  refine ab.cond rfl (fun hc=>by exfalso;simp at hc) (fun _=>?_)
  refine gK (gS (gS (gR ?_)));refine al Jk Jh 0 ?_;refine aq Jj 0 ?_;refine al Jg Je 4 ?_;refine aq Jf 1 ?_;refine ah ?_
  refine gP rfl rfl rfl rfl rfl JY (fun w _ hS=>(by exact cd true n.x at_ w)) ?_
  refine eV bB ?_;refine ah ?_
  refine eB 23 (fun hc=>?_) fun hc=>?_
  ·
   have hb:iM (cD n.op) n.x at_=false:=by rw [hX];simpa using hc
   iterate 7 refine cz ?_
   refine cC ?_;refine gE (ab.bV rfl (gS (gR ?_)));refine ai ?_;refine gE ?_
   refine gT Jp fun w' hS=>?_
   exact ⟨hS.ext,by rw [show aK n at_=3 from iS hop hb];rfl⟩
  have hox:iM (cD n.op) n.x at_=true:=by rw [hX];simpa using hc
  refine al Jk Jh 1 ?_;refine aq Jj 0 ?_;refine al Jg Je 5 ?_;refine aq Jf 1 ?_;refine ah ?_
  refine gP rfl rfl rfl rfl rfl JY (fun w _ hS=>(by exact cd false n.y at_ w)) ?_
  refine eV bB ?_;refine bA ?_;refine gE ?_
  refine gC (fun hc=>?_) fun hc=>?_
  ·
   have hb:iM (cn n.op) n.y at_=false:=by rw [hY];simpa using hc
   refine gS (gR ?_);refine ai ?_;refine gE ?_
   refine gT Jp fun w' hS=>?_
   exact ⟨hS.ext,by rw [show aK n at_=3 from iR hop hb];rfl⟩
  have hoy:iM (cn n.op) n.y at_=true:=by rw [hY];simpa using hc
  refine gK (gS (gS (gR ?_)));refine al Jk Jh 2 ?_;refine aq Jj 0 ?_;refine ah ?_;refine al Jk Jh 3 ?_;refine aq Jj 0 ?_;refine bA ?_;refine ah ?_
  iterate 2 refine cz ?_
  refine cC ?_;refine eV bB ?_;refine ah ?_
  iterate 3 refine cz ?_
  refine bA ?_;refine ah ?_;refine al Jk Jh 5 ?_;refine aq Jj 0 ?_;refine eV bB ?_;refine ah ?_;refine al Jg Je 2 ?_;refine aq Jf 1 ?_;refine aw gO ?_;refine cC ?_;refine bA ?_;refine ah ?_
  refine eB 58 (fun hc=>?_) fun hc=>?_
  ·
   have hb:n.e≠0:=by simpa using hc
   iterate 8 refine cz ?_
   refine cC ?_;refine gE (ab.bV rfl (gS (gR ?_)));refine ai ?_;refine gE ?_
   refine gT Jp fun w' hS=>?_
   exact ⟨hS.ext,by rw [show aK n at_=3 from (aY hop hox hoy).trans (eC (by simp [iO,bne,h3,h17,hA,hG];omega))];rfl⟩
  have hze:n.e=0:=by simpa using hc
  refine al Jk Jh 4 ?_;refine aq Jj 0 ?_;refine eV bB ?_;refine ah ?_;refine al Jg Je 3 ?_;refine aq Jf 1 ?_;refine aw gO ?_;refine cC ?_;refine bA ?_;refine gE ?_
  refine gC (fun hc=>?_) fun hc=>?_
  ·
   have hb:n.g≠0:=by simpa using hc
   refine gS (gR ?_);refine ai ?_;refine gE ?_
   refine gT Jp fun w' hS=>?_
   exact ⟨hS.ext,by rw [show aK n at_=3 from (aY hop hox hoy).trans (eC (by simp [iO,bne,h3,h17,hA,hG];omega))];rfl⟩
  have hzg:n.g=0:=by simpa using hc
  have hfa:(!iO n.op && n.i !=0||n.op !=17 && n.e !=0||!lS n.op && n.g !=0)=false:=by simp [iO,bne,h3,h17,hA,hG];omega
  refine gK (gS (gR ?_));refine ai ?_;refine gE (gS (gS (gR ?_)));refine ah ?_;refine al Jk Jh 2 ?_;refine aq Jj 0 ?_;refine al Jg Je 1 ?_;refine aq Jf 1 ?_
  refine gP rfl rfl rfl rfl rfl Jx (fun w _ hS=>(by exact bS false n.i 0 7 w)) ?_
  iterate 2 refine ah ?_
  refine al Jk Jh 3 ?_;refine aq Jj 0 ?_;refine al Jg Je 1 ?_;refine aq Jf 1 ?_
  refine gP rfl rfl rfl rfl rfl Jx (fun w _ hS=>(by exact bS true n.i 0 3 w)) ?_
  refine bA ?_;refine ah ?_
  refine eB 82 (fun hc=>?_) fun hc=>?_
  ·
   have hb:n.i<0∨3<n.i:=by simpa [kJ] using hc
   iterate 6 refine cz ?_
   refine cC ?_;refine ah ?_
   iterate 6 refine cz ?_
   refine cC ?_;refine ah ?_
   iterate 6 refine cz ?_
   refine cC ?_;refine gE (ab.bV rfl (gS (gR ?_)));refine ai ?_;refine gE ?_
   refine gT Jp fun w' hS=>?_
   exact ⟨hS.ext,by rw [show aK n at_=2 from (aY hop hox hoy).trans (mo hfa (by simp [h3,h17,hA,hG];omega))];rfl⟩
  have hrA:0≤n.i∧n.i≤3:=by simpa [kJ] using hc
  refine ah ?_;refine al Jk Jh 5 ?_;refine aq Jj 0 ?_;refine al Jg Je 1 ?_;refine aq Jf 1 ?_
  refine gP rfl rfl rfl rfl rfl Jx (fun w _ hS=>(by exact bS false n.i 0 7 w)) ?_
  refine bA ?_
  iterate 2 refine ah ?_
  refine al Jk Jh 5 ?_;refine aq Jj 0 ?_;refine al Jg Je 2 ?_;refine aq Jf 1 ?_
  refine gP rfl rfl rfl rfl rfl Jx (fun w _ hS=>(by exact bS false n.e 0 7 w)) ?_
  refine bA ?_
  iterate 2 refine ah ?_
  refine al Jk Jh 4 ?_;refine aq Jj 0 ?_;refine al Jg Je 3 ?_;refine aq Jf 1 ?_
  refine gP rfl rfl rfl rfl rfl Jx (fun w _ hS=>(by exact bS false n.g 1 15 w)) ?_
  refine bA ?_;refine gE (ab.fQ rfl (gK (gS (gR ?_))));refine ai ?_;refine gE ?_
  refine gT Jp fun w' hS=>?_
  exact ⟨hS.ext,by rw [show aK n at_=0 from (aY hop hox hoy).trans (kE hfa (by simp [h3,h17,hA,hG];omega))];rfl⟩
set_option maxRecDepth 4000 in
theorem tf (n:NV) (at_ fr:Int) (w:World) (hop:1≤n.op∧n.op≤21) (hX:cD n.op=true) (hY:cn n.op=false) (h3:(n.op==3)=false) (hA:o8 n.op=false) (h17:(n.op==17)=false) (hG:lS n.op=true) (hU:qR n.op=.agg #[.bool true,.bool false,.bool false,.bool false,.bool true,.bool false,.int .i64 fr]) (hK:okO n.op=true):
    Cn Tryz.prog 102 [n.v,.int .i64 at_] w (fun v _=>v=.int .i64 (aK n at_)):=by
  refine Cn.of Jp rfl rfl ?_
  refine gS (gR ?_)
  refine ab.bx rfl rfl rfl rfl (fun b2=>?_)
  refine ai ?_;refine gE (gS (gR ?_));refine al Jg Je 0 ?_;refine aq Jf 0 ?_
  refine gP rfl rfl rfl rfl rfl call105 (fun w _ hS=>(by have:=gV n.op w;rw [hU,hK] at this;exact this)) ?_
  refine ah ?_
  iterate 2 refine gh ?_
  refine ab.eK rfl rfl rfl (fun _=>J4 _) (fun b5=>?_)
  refine ab.dD rfl rfl rfl rfl Jq 0 rfl rfl rfl rfl ?_
  refine ai ?_;refine gE (gS (gS (gR ?_)));refine ah ?_;refine eV bB ?_;refine gE ?_
  refine ab.cond rfl (fun hc=>by exfalso;simp at hc) (fun _=>?_)
  refine gK (gS (gS (gR ?_)));refine al Jk Jh 0 ?_;refine aq Jj 0 ?_;refine al Jg Je 4 ?_;refine aq Jf 1 ?_;refine ah ?_
  refine gP rfl rfl rfl rfl rfl JY (fun w _ hS=>(by exact cd true n.x at_ w)) ?_
  refine eV bB ?_;refine ah ?_
  refine eB 23 (fun hc=>?_) fun hc=>?_
  ·
   have hb:iM (cD n.op) n.x at_=false:=by rw [hX];simpa using hc
   iterate 7 refine cz ?_
   refine cC ?_;refine gE (ab.bV rfl (gS (gR ?_)));refine ai ?_;refine gE ?_
   refine gT Jp fun w' hS=>?_
   exact ⟨hS.ext,by rw [show aK n at_=3 from iS hop hb];rfl⟩
  have hox:iM (cD n.op) n.x at_=true:=by rw [hX];simpa using hc
  refine al Jk Jh 1 ?_;refine aq Jj 0 ?_;refine al Jg Je 5 ?_;refine aq Jf 1 ?_;refine ah ?_
  refine gP rfl rfl rfl rfl rfl JY (fun w _ hS=>(by exact cd false n.y at_ w)) ?_
  refine eV bB ?_;refine bA ?_;refine gE ?_
  refine gC (fun hc=>?_) fun hc=>?_
  ·
   have hb:iM (cn n.op) n.y at_=false:=by rw [hY];simpa using hc
   refine gS (gR ?_);refine ai ?_;refine gE ?_
   refine gT Jp fun w' hS=>?_
   exact ⟨hS.ext,by rw [show aK n at_=3 from iR hop hb];rfl⟩
  have hoy:iM (cn n.op) n.y at_=true:=by rw [hY];simpa using hc
  refine gK (gS (gS (gR ?_)));refine al Jk Jh 2 ?_;refine aq Jj 0 ?_;refine ah ?_;refine al Jk Jh 3 ?_;refine aq Jj 0 ?_;refine bA ?_;refine ah ?_;refine al Jk Jh 5 ?_;refine aq Jj 0 ?_;refine bA ?_;refine eV bB ?_;refine ah ?_;refine al Jg Je 1 ?_
  refine aq Jf 1 ?_;refine aw gO ?_;refine cC ?_;refine ah ?_
  refine eB 48 (fun hc=>?_) fun hc=>?_
  ·
   have hb:n.i≠0:=by simpa using hc
   iterate 8 refine cz ?_
   refine cC ?_;refine ah ?_
   iterate 8 refine cz ?_
   refine cC ?_;refine gE (ab.bV rfl (gS (gR ?_)));refine ai ?_;refine gE ?_
   refine gT Jp fun w' hS=>?_
   exact ⟨hS.ext,by rw [show aK n at_=3 from (aY hop hox hoy).trans (eC (by simp [iO,bne,h3,h17,hA,hG];omega))];rfl⟩
  have hzi:n.i=0:=by simpa using hc
  refine al Jk Jh 5 ?_;refine aq Jj 0 ?_;refine eV bB ?_;refine ah ?_;refine al Jg Je 2 ?_;refine aq Jf 1 ?_;refine aw gO ?_;refine cC ?_;refine bA ?_;refine ah ?_
  refine eB 58 (fun hc=>?_) fun hc=>?_
  ·
   have hb:n.e≠0:=by simpa using hc
   iterate 8 refine cz ?_
   refine cC ?_;refine gE (ab.bV rfl (gS (gR ?_)));refine ai ?_;refine gE ?_
   refine gT Jp fun w' hS=>?_
   exact ⟨hS.ext,by rw [show aK n at_=3 from (aY hop hox hoy).trans (eC (by simp [iO,bne,h3,h17,hA,hG];omega))];rfl⟩
  have hze:n.e=0:=by simpa using hc
  refine al Jk Jh 4 ?_;refine aq Jj 0 ?_
  have hfa:(!iO n.op && n.i !=0||n.op !=17 && n.e !=0||!lS n.op && n.g !=0)=false:=by simp [iO,bne,h3,h17,hA,hG];omega
  refine eV bB ?_;refine ah ?_
  iterate 3 refine cz ?_
  iterate 2 refine bA ?_
  refine gE (ab.fQ rfl (gK (gS (gR ?_))));refine ai ?_;refine gE (gS (gS (gR ?_)));refine ah ?_;refine al Jk Jh 2 ?_;refine aq Jj 0 ?_;refine al Jg Je 1 ?_;refine aq Jf 1 ?_
  refine gP rfl rfl rfl rfl rfl Jx (fun w _ hS=>(by exact bS false n.i 0 7 w)) ?_
  iterate 2 refine ah ?_
  refine al Jk Jh 3 ?_;refine aq Jj 0 ?_;refine al Jg Je 1 ?_;refine aq Jf 1 ?_
  refine gP rfl rfl rfl rfl rfl Jx (fun w _ hS=>(by exact bS false n.i 0 3 w)) ?_
  refine bA ?_
  iterate 2 refine ah ?_
  refine al Jk Jh 5 ?_;refine aq Jj 0 ?_;refine al Jg Je 1 ?_;refine aq Jf 1 ?_
  refine gP rfl rfl rfl rfl rfl Jx (fun w _ hS=>(by exact bS false n.i 0 7 w)) ?_
  refine bA ?_
  iterate 2 refine ah ?_
  refine al Jk Jh 5 ?_;refine aq Jj 0 ?_;refine al Jg Je 2 ?_;refine aq Jf 1 ?_
  refine gP rfl rfl rfl rfl rfl Jx (fun w _ hS=>(by exact bS false n.e 0 7 w)) ?_
  refine bA ?_
  iterate 2 refine ah ?_
  refine al Jk Jh 4 ?_;refine aq Jj 0 ?_;refine al Jg Je 3 ?_;refine aq Jf 1 ?_
  refine gP rfl rfl rfl rfl rfl Jx (fun w _ hS=>(by exact bS true n.g 1 15 w)) ?_
  refine bA ?_;refine gE ?_
  refine gC (fun hc=>?_) fun hc=>?_
  ·
   have hb:n.g<1∨15<n.g:=by simpa [kJ] using hc
   refine gS (gR ?_);refine ai ?_;refine gE ?_
   refine gT Jp fun w' hS=>?_
   exact ⟨hS.ext,by rw [show aK n at_=2 from (aY hop hox hoy).trans (mo hfa (by simp [h3,h17,hA,hG];omega))];rfl⟩
  have hrG:1≤n.g∧n.g≤15:=by simpa [kJ] using hc
  refine gK (gS (gR ?_));refine ai ?_;refine gE ?_
  refine gT Jp fun w' hS=>?_
  exact ⟨hS.ext,by rw [show aK n at_=0 from (aY hop hox hoy).trans (kE hfa (by simp [h3,h17,hA,hG];omega))];rfl⟩
set_option maxRecDepth 4000 in
theorem yt (n:NV) (at_ fr:Int) (w:World) (hop:1≤n.op∧n.op≤21) (hX:cD n.op=true) (hY:cn n.op=true) (h3:(n.op==3)=false) (hA:o8 n.op=false) (h17:(n.op==17)=false) (hG:lS n.op=true) (hU:qR n.op=.agg #[.bool true,.bool true,.bool false,.bool false,.bool true,.bool false,.int .i64 fr]) (hK:okO n.op=true):
    Cn Tryz.prog 102 [n.v,.int .i64 at_] w (fun v _=>v=.int .i64 (aK n at_)):=by
  refine Cn.of Jp rfl rfl ?_
  refine gS (gR ?_)
  refine ab.bx rfl rfl rfl rfl (fun b2=>?_)
  refine ai ?_;refine gE (gS (gR ?_));refine al Jg Je 0 ?_;refine aq Jf 0 ?_
  refine gP rfl rfl rfl rfl rfl call105 (fun w _ hS=>(by have:=gV n.op w;rw [hU,hK] at this;exact this)) ?_
  refine ah ?_
  iterate 2 refine gh ?_
  refine ab.eK rfl rfl rfl (fun _=>J4 _) (fun b5=>?_)
  refine ab.dD rfl rfl rfl rfl Jq 0 rfl rfl rfl rfl ?_
  refine ai ?_;refine gE (gS (gS (gR ?_)));refine ah ?_;refine eV bB ?_;refine gE ?_
  refine ab.cond rfl (fun hc=>by exfalso;simp at hc) (fun _=>?_)
  refine gK (gS (gS (gR ?_)));refine al Jk Jh 0 ?_;refine aq Jj 0 ?_;refine al Jg Je 4 ?_;refine aq Jf 1 ?_;refine ah ?_
  refine gP rfl rfl rfl rfl rfl JY (fun w _ hS=>(by exact cd true n.x at_ w)) ?_
  refine eV bB ?_;refine ah ?_
  refine eB 23 (fun hc=>?_) fun hc=>?_
  ·
   have hb:iM (cD n.op) n.x at_=false:=by rw [hX];simpa using hc
   iterate 7 refine cz ?_
   refine cC ?_;refine gE (ab.bV rfl (gS (gR ?_)));refine ai ?_;refine gE ?_
   refine gT Jp fun w' hS=>?_
   exact ⟨hS.ext,by rw [show aK n at_=3 from iS hop hb];rfl⟩
  have hox:iM (cD n.op) n.x at_=true:=by rw [hX];simpa using hc
  refine al Jk Jh 1 ?_;refine aq Jj 0 ?_;refine al Jg Je 5 ?_;refine aq Jf 1 ?_;refine ah ?_
  refine gP rfl rfl rfl rfl rfl JY (fun w _ hS=>(by exact cd true n.y at_ w)) ?_
  refine eV bB ?_;refine bA ?_;refine gE ?_
  refine gC (fun hc=>?_) fun hc=>?_
  ·
   have hb:iM (cn n.op) n.y at_=false:=by rw [hY];simpa using hc
   refine gS (gR ?_);refine ai ?_;refine gE ?_
   refine gT Jp fun w' hS=>?_
   exact ⟨hS.ext,by rw [show aK n at_=3 from iR hop hb];rfl⟩
  have hoy:iM (cn n.op) n.y at_=true:=by rw [hY];simpa using hc
  refine gK (gS (gS (gR ?_)));refine al Jk Jh 2 ?_;refine aq Jj 0 ?_;refine ah ?_;refine al Jk Jh 3 ?_;refine aq Jj 0 ?_;refine bA ?_;refine ah ?_;refine al Jk Jh 5 ?_;refine aq Jj 0 ?_;refine bA ?_;refine eV bB ?_;refine ah ?_;refine al Jg Je 1 ?_
  refine aq Jf 1 ?_;refine aw gO ?_;refine cC ?_;refine ah ?_
  refine eB 48 (fun hc=>?_) fun hc=>?_
  ·
   have hb:n.i≠0:=by simpa using hc
   iterate 8 refine cz ?_
   refine cC ?_;refine ah ?_
   iterate 8 refine cz ?_
   refine cC ?_;refine gE (ab.bV rfl (gS (gR ?_)));refine ai ?_;refine gE ?_
   refine gT Jp fun w' hS=>?_
   exact ⟨hS.ext,by rw [show aK n at_=3 from (aY hop hox hoy).trans (eC (by simp [iO,bne,h3,h17,hA,hG];omega))];rfl⟩
  have hzi:n.i=0:=by simpa using hc
  refine al Jk Jh 5 ?_;refine aq Jj 0 ?_;refine eV bB ?_;refine ah ?_;refine al Jg Je 2 ?_;refine aq Jf 1 ?_;refine aw gO ?_;refine cC ?_;refine bA ?_;refine ah ?_
  refine eB 58 (fun hc=>?_) fun hc=>?_
  ·
   have hb:n.e≠0:=by simpa using hc
   iterate 8 refine cz ?_
   refine cC ?_;refine gE (ab.bV rfl (gS (gR ?_)));refine ai ?_;refine gE ?_
   refine gT Jp fun w' hS=>?_
   exact ⟨hS.ext,by rw [show aK n at_=3 from (aY hop hox hoy).trans (eC (by simp [iO,bne,h3,h17,hA,hG];omega))];rfl⟩
  have hze:n.e=0:=by simpa using hc
  refine al Jk Jh 4 ?_;refine aq Jj 0 ?_
  have hfa:(!iO n.op && n.i !=0||n.op !=17 && n.e !=0||!lS n.op && n.g !=0)=false:=by simp [iO,bne,h3,h17,hA,hG];omega
  refine eV bB ?_;refine ah ?_
  iterate 3 refine cz ?_
  iterate 2 refine bA ?_
  refine gE (ab.fQ rfl (gK (gS (gR ?_))));refine ai ?_;refine gE (gS (gS (gR ?_)));refine ah ?_;refine al Jk Jh 2 ?_;refine aq Jj 0 ?_;refine al Jg Je 1 ?_;refine aq Jf 1 ?_
  refine gP rfl rfl rfl rfl rfl Jx (fun w _ hS=>(by exact bS false n.i 0 7 w)) ?_
  iterate 2 refine ah ?_
  refine al Jk Jh 3 ?_;refine aq Jj 0 ?_;refine al Jg Je 1 ?_;refine aq Jf 1 ?_
  refine gP rfl rfl rfl rfl rfl Jx (fun w _ hS=>(by exact bS false n.i 0 3 w)) ?_
  refine bA ?_
  iterate 2 refine ah ?_
  refine al Jk Jh 5 ?_;refine aq Jj 0 ?_;refine al Jg Je 1 ?_;refine aq Jf 1 ?_
  refine gP rfl rfl rfl rfl rfl Jx (fun w _ hS=>(by exact bS false n.i 0 7 w)) ?_
  refine bA ?_
  iterate 2 refine ah ?_
  refine al Jk Jh 5 ?_;refine aq Jj 0 ?_;refine al Jg Je 2 ?_;refine aq Jf 1 ?_
  refine gP rfl rfl rfl rfl rfl Jx (fun w _ hS=>(by exact bS false n.e 0 7 w)) ?_
  refine bA ?_
  iterate 2 refine ah ?_
  refine al Jk Jh 4 ?_;refine aq Jj 0 ?_;refine al Jg Je 3 ?_;refine aq Jf 1 ?_
  refine gP rfl rfl rfl rfl rfl Jx (fun w _ hS=>(by exact bS true n.g 1 15 w)) ?_
  refine bA ?_;refine gE ?_
  refine gC (fun hc=>?_) fun hc=>?_
  ·
   have hb:n.g<1∨15<n.g:=by simpa [kJ] using hc
   refine gS (gR ?_);refine ai ?_;refine gE ?_
   refine gT Jp fun w' hS=>?_
   exact ⟨hS.ext,by rw [show aK n at_=2 from (aY hop hox hoy).trans (mo hfa (by simp [h3,h17,hA,hG];omega))];rfl⟩
  have hrG:1≤n.g∧n.g≤15:=by simpa [kJ] using hc
  refine gK (gS (gR ?_));refine ai ?_;refine gE ?_
  refine gT Jp fun w' hS=>?_
  exact ⟨hS.ext,by rw [show aK n at_=0 from (aY hop hox hoy).trans (kE hfa (by simp [h3,h17,hA,hG];omega))];rfl⟩
set_option maxRecDepth 4000 in
theorem yv (n:NV) (at_ fr:Int) (w:World) (hop:1≤n.op∧n.op≤21) (hX:cD n.op=true) (hY:cn n.op=true) (h3:(n.op==3)=false) (hA:o8 n.op=true) (h17:(n.op==17)=false) (hG:lS n.op=false) (hU:qR n.op=.agg #[.bool true,.bool true,.bool false,.bool true,.bool false,.bool false,.int .i64 fr]) (hK:okO n.op=true):
    Cn Tryz.prog 102 [n.v,.int .i64 at_] w (fun v _=>v=.int .i64 (aK n at_)):=by
  refine Cn.of Jp rfl rfl ?_
  refine gS (gR ?_)
  refine ab.bx rfl rfl rfl rfl (fun b2=>?_)
  refine ai ?_;refine gE (gS (gR ?_));refine al Jg Je 0 ?_;refine aq Jf 0 ?_
  refine gP rfl rfl rfl rfl rfl call105 (fun w _ hS=>(by have:=gV n.op w;rw [hU,hK] at this;exact this)) ?_
  refine ah ?_
  iterate 2 refine gh ?_
  refine ab.eK rfl rfl rfl (fun _=>J4 _) (fun b5=>?_)
  refine ab.dD rfl rfl rfl rfl Jq 0 rfl rfl rfl rfl ?_
  refine ai ?_;refine gE (gS (gS (gR ?_)));refine ah ?_;refine eV bB ?_;refine gE ?_
  refine ab.cond rfl (fun hc=>by exfalso;simp at hc) (fun _=>?_)
  refine gK (gS (gS (gR ?_)));refine al Jk Jh 0 ?_;refine aq Jj 0 ?_;refine al Jg Je 4 ?_;refine aq Jf 1 ?_;refine ah ?_
  refine gP rfl rfl rfl rfl rfl JY (fun w _ hS=>(by exact cd true n.x at_ w)) ?_
  refine eV bB ?_;refine ah ?_
  refine eB 23 (fun hc=>?_) fun hc=>?_
  ·
   have hb:iM (cD n.op) n.x at_=false:=by rw [hX];simpa using hc
   iterate 7 refine cz ?_
   refine cC ?_;refine gE (ab.bV rfl (gS (gR ?_)));refine ai ?_;refine gE ?_
   refine gT Jp fun w' hS=>?_
   exact ⟨hS.ext,by rw [show aK n at_=3 from iS hop hb];rfl⟩
  have hox:iM (cD n.op) n.x at_=true:=by rw [hX];simpa using hc
  refine al Jk Jh 1 ?_;refine aq Jj 0 ?_;refine al Jg Je 5 ?_;refine aq Jf 1 ?_;refine ah ?_
  refine gP rfl rfl rfl rfl rfl JY (fun w _ hS=>(by exact cd true n.y at_ w)) ?_
  refine eV bB ?_;refine bA ?_;refine gE ?_
  refine gC (fun hc=>?_) fun hc=>?_
  ·
   have hb:iM (cn n.op) n.y at_=false:=by rw [hY];simpa using hc
   refine gS (gR ?_);refine ai ?_;refine gE ?_
   refine gT Jp fun w' hS=>?_
   exact ⟨hS.ext,by rw [show aK n at_=3 from iR hop hb];rfl⟩
  have hoy:iM (cn n.op) n.y at_=true:=by rw [hY];simpa using hc
  refine gK (gS (gS (gR ?_)));refine al Jk Jh 2 ?_;refine aq Jj 0 ?_;refine ah ?_;refine al Jk Jh 3 ?_;refine aq Jj 0 ?_;refine bA ?_;refine ah ?_
  iterate 2 refine cz ?_
  refine cC ?_;refine eV bB ?_;refine ah ?_
  iterate 3 refine cz ?_
  refine bA ?_;refine ah ?_;refine al Jk Jh 5 ?_;refine aq Jj 0 ?_;refine eV bB ?_;refine ah ?_;refine al Jg Je 2 ?_;refine aq Jf 1 ?_;refine aw gO ?_;refine cC ?_;refine bA ?_;refine ah ?_
  refine eB 58 (fun hc=>?_) fun hc=>?_
  ·
   have hb:n.e≠0:=by simpa using hc
   iterate 8 refine cz ?_
   refine cC ?_;refine gE (ab.bV rfl (gS (gR ?_)));refine ai ?_;refine gE ?_
   refine gT Jp fun w' hS=>?_
   exact ⟨hS.ext,by rw [show aK n at_=3 from (aY hop hox hoy).trans (eC (by simp [iO,bne,h3,h17,hA,hG];omega))];rfl⟩
  have hze:n.e=0:=by simpa using hc
  refine al Jk Jh 4 ?_;refine aq Jj 0 ?_;refine eV bB ?_;refine ah ?_;refine al Jg Je 3 ?_;refine aq Jf 1 ?_;refine aw gO ?_;refine cC ?_;refine bA ?_;refine gE ?_
  refine gC (fun hc=>?_) fun hc=>?_
  ·
   have hb:n.g≠0:=by simpa using hc
   refine gS (gR ?_);refine ai ?_;refine gE ?_
   refine gT Jp fun w' hS=>?_
   exact ⟨hS.ext,by rw [show aK n at_=3 from (aY hop hox hoy).trans (eC (by simp [iO,bne,h3,h17,hA,hG];omega))];rfl⟩
  have hzg:n.g=0:=by simpa using hc
  have hfa:(!iO n.op && n.i !=0||n.op !=17 && n.e !=0||!lS n.op && n.g !=0)=false:=by simp [iO,bne,h3,h17,hA,hG];omega
  refine gK (gS (gR ?_));refine ai ?_;refine gE (gS (gS (gR ?_)));refine ah ?_;refine al Jk Jh 2 ?_;refine aq Jj 0 ?_;refine al Jg Je 1 ?_;refine aq Jf 1 ?_
  refine gP rfl rfl rfl rfl rfl Jx (fun w _ hS=>(by exact bS false n.i 0 7 w)) ?_
  iterate 2 refine ah ?_
  refine al Jk Jh 3 ?_;refine aq Jj 0 ?_;refine al Jg Je 1 ?_;refine aq Jf 1 ?_
  refine gP rfl rfl rfl rfl rfl Jx (fun w _ hS=>(by exact bS true n.i 0 3 w)) ?_
  refine bA ?_;refine ah ?_
  refine eB 82 (fun hc=>?_) fun hc=>?_
  ·
   have hb:n.i<0∨3<n.i:=by simpa [kJ] using hc
   iterate 6 refine cz ?_
   refine cC ?_;refine ah ?_
   iterate 6 refine cz ?_
   refine cC ?_;refine ah ?_
   iterate 6 refine cz ?_
   refine cC ?_;refine gE (ab.bV rfl (gS (gR ?_)));refine ai ?_;refine gE ?_
   refine gT Jp fun w' hS=>?_
   exact ⟨hS.ext,by rw [show aK n at_=2 from (aY hop hox hoy).trans (mo hfa (by simp [h3,h17,hA,hG];omega))];rfl⟩
  have hrA:0≤n.i∧n.i≤3:=by simpa [kJ] using hc
  refine ah ?_;refine al Jk Jh 5 ?_;refine aq Jj 0 ?_;refine al Jg Je 1 ?_;refine aq Jf 1 ?_
  refine gP rfl rfl rfl rfl rfl Jx (fun w _ hS=>(by exact bS false n.i 0 7 w)) ?_
  refine bA ?_
  iterate 2 refine ah ?_
  refine al Jk Jh 5 ?_;refine aq Jj 0 ?_;refine al Jg Je 2 ?_;refine aq Jf 1 ?_
  refine gP rfl rfl rfl rfl rfl Jx (fun w _ hS=>(by exact bS false n.e 0 7 w)) ?_
  refine bA ?_
  iterate 2 refine ah ?_
  refine al Jk Jh 4 ?_;refine aq Jj 0 ?_;refine al Jg Je 3 ?_;refine aq Jf 1 ?_
  refine gP rfl rfl rfl rfl rfl Jx (fun w _ hS=>(by exact bS false n.g 1 15 w)) ?_
  refine bA ?_;refine gE (ab.fQ rfl (gK (gS (gR ?_))));refine ai ?_;refine gE ?_
  refine gT Jp fun w' hS=>?_
  exact ⟨hS.ext,by rw [show aK n at_=0 from (aY hop hox hoy).trans (kE hfa (by simp [h3,h17,hA,hG];omega))];rfl⟩
set_option maxRecDepth 4000 in
theorem yw (n:NV) (at_ fr:Int) (w:World) (hop:1≤n.op∧n.op≤21) (hX:cD n.op=true) (hY:cn n.op=false) (h3:(n.op==3)=false) (hA:o8 n.op=false) (h17:(n.op==17)=true) (hG:lS n.op=false) (hU:qR n.op=.agg #[.bool true,.bool false,.bool false,.bool false,.bool false,.bool true,.int .i64 fr]) (hK:okO n.op=true):
    Cn Tryz.prog 102 [n.v,.int .i64 at_] w (fun v _=>v=.int .i64 (aK n at_)):=by
  refine Cn.of Jp rfl rfl ?_
  refine gS (gR ?_)
  refine ab.bx rfl rfl rfl rfl (fun b2=>?_)
  refine ai ?_;refine gE (gS (gR ?_));refine al Jg Je 0 ?_;refine aq Jf 0 ?_
  refine gP rfl rfl rfl rfl rfl call105 (fun w _ hS=>(by have:=gV n.op w;rw [hU,hK] at this;exact this)) ?_
  refine ah ?_
  iterate 2 refine gh ?_
  refine ab.eK rfl rfl rfl (fun _=>J4 _) (fun b5=>?_)
  refine ab.dD rfl rfl rfl rfl Jq 0 rfl rfl rfl rfl ?_
  refine ai ?_;refine gE (gS (gS (gR ?_)));refine ah ?_;refine eV bB ?_;refine gE ?_
  refine ab.cond rfl (fun hc=>by exfalso;simp at hc) (fun _=>?_)
  refine gK (gS (gS (gR ?_)));refine al Jk Jh 0 ?_;refine aq Jj 0 ?_;refine al Jg Je 4 ?_;refine aq Jf 1 ?_;refine ah ?_
  refine gP rfl rfl rfl rfl rfl JY (fun w _ hS=>(by exact cd true n.x at_ w)) ?_
  refine eV bB ?_;refine ah ?_
  refine eB 23 (fun hc=>?_) fun hc=>?_
  ·
   have hb:iM (cD n.op) n.x at_=false:=by rw [hX];simpa using hc
   iterate 7 refine cz ?_
   refine cC ?_;refine gE (ab.bV rfl (gS (gR ?_)));refine ai ?_;refine gE ?_
   refine gT Jp fun w' hS=>?_
   exact ⟨hS.ext,by rw [show aK n at_=3 from iS hop hb];rfl⟩
  have hox:iM (cD n.op) n.x at_=true:=by rw [hX];simpa using hc
  refine al Jk Jh 1 ?_;refine aq Jj 0 ?_;refine al Jg Je 5 ?_;refine aq Jf 1 ?_;refine ah ?_
  refine gP rfl rfl rfl rfl rfl JY (fun w _ hS=>(by exact cd false n.y at_ w)) ?_
  refine eV bB ?_;refine bA ?_;refine gE ?_
  refine gC (fun hc=>?_) fun hc=>?_
  ·
   have hb:iM (cn n.op) n.y at_=false:=by rw [hY];simpa using hc
   refine gS (gR ?_);refine ai ?_;refine gE ?_
   refine gT Jp fun w' hS=>?_
   exact ⟨hS.ext,by rw [show aK n at_=3 from iR hop hb];rfl⟩
  have hoy:iM (cn n.op) n.y at_=true:=by rw [hY];simpa using hc
  refine gK (gS (gS (gR ?_)));refine al Jk Jh 2 ?_;refine aq Jj 0 ?_;refine ah ?_;refine al Jk Jh 3 ?_;refine aq Jj 0 ?_;refine bA ?_;refine ah ?_;refine al Jk Jh 5 ?_;refine aq Jj 0 ?_;refine bA ?_;refine eV bB ?_;refine ah ?_
  iterate 3 refine cz ?_
  refine bA ?_;refine ah ?_;refine al Jk Jh 5 ?_;refine aq Jj 0 ?_;refine eV bB ?_;refine ah ?_
  iterate 3 refine cz ?_
  iterate 2 refine bA ?_
  refine ah ?_;refine al Jk Jh 4 ?_;refine aq Jj 0 ?_;refine eV bB ?_;refine ah ?_;refine al Jg Je 3 ?_;refine aq Jf 1 ?_;refine aw gO ?_;refine cC ?_;refine bA ?_;refine gE ?_
  refine gC (fun hc=>?_) fun hc=>?_
  ·
   have hb:n.g≠0:=by simpa using hc
   refine gS (gR ?_);refine ai ?_;refine gE ?_
   refine gT Jp fun w' hS=>?_
   exact ⟨hS.ext,by rw [show aK n at_=3 from (aY hop hox hoy).trans (eC (by simp [iO,bne,h3,h17,hA,hG];omega))];rfl⟩
  have hzg:n.g=0:=by simpa using hc
  have hfa:(!iO n.op && n.i !=0||n.op !=17 && n.e !=0||!lS n.op && n.g !=0)=false:=by simp [iO,bne,h3,h17,hA,hG];omega
  refine gK (gS (gR ?_));refine ai ?_;refine gE (gS (gS (gR ?_)));refine ah ?_;refine al Jk Jh 2 ?_;refine aq Jj 0 ?_;refine al Jg Je 1 ?_;refine aq Jf 1 ?_
  refine gP rfl rfl rfl rfl rfl Jx (fun w _ hS=>(by exact bS false n.i 0 7 w)) ?_
  iterate 2 refine ah ?_
  refine al Jk Jh 3 ?_;refine aq Jj 0 ?_;refine al Jg Je 1 ?_;refine aq Jf 1 ?_
  refine gP rfl rfl rfl rfl rfl Jx (fun w _ hS=>(by exact bS false n.i 0 3 w)) ?_
  refine bA ?_
  iterate 2 refine ah ?_
  refine al Jk Jh 5 ?_;refine aq Jj 0 ?_;refine al Jg Je 1 ?_;refine aq Jf 1 ?_
  refine gP rfl rfl rfl rfl rfl Jx (fun w _ hS=>(by exact bS true n.i 0 7 w)) ?_
  refine bA ?_;refine ah ?_
  refine eB 90 (fun hc=>?_) fun hc=>?_
  ·
   have hb:n.i<0∨7<n.i:=by simpa [kJ] using hc
   iterate 6 refine cz ?_
   refine cC ?_;refine ah ?_
   iterate 6 refine cz ?_
   refine cC ?_;refine gE (ab.bV rfl (gS (gR ?_)));refine ai ?_;refine gE ?_
   refine gT Jp fun w' hS=>?_
   exact ⟨hS.ext,by rw [show aK n at_=2 from (aY hop hox hoy).trans (mo hfa (by simp [h3,h17,hA,hG];omega))];rfl⟩
  have hr17:0≤n.i∧n.i≤7:=by simpa [kJ] using hc
  refine ah ?_;refine al Jk Jh 5 ?_;refine aq Jj 0 ?_;refine al Jg Je 2 ?_;refine aq Jf 1 ?_
  refine gP rfl rfl rfl rfl rfl Jx (fun w _ hS=>(by exact bS true n.e 0 7 w)) ?_
  refine bA ?_;refine ah ?_
  refine eB 98 (fun hc=>?_) fun hc=>?_
  ·
   have hb:n.e<0∨7<n.e:=by simpa [kJ] using hc
   iterate 6 refine cz ?_
   refine cC ?_;refine gE (ab.bV rfl (gS (gR ?_)));refine ai ?_;refine gE ?_
   refine gT Jp fun w' hS=>?_
   exact ⟨hS.ext,by rw [show aK n at_=2 from (aY hop hox hoy).trans (mo hfa (by simp [h3,h17,hA,hG];omega))];rfl⟩
  have hrE:0≤n.e∧n.e≤7:=by simpa [kJ] using hc
  refine ah ?_;refine al Jk Jh 4 ?_;refine aq Jj 0 ?_;refine al Jg Je 3 ?_;refine aq Jf 1 ?_
  refine gP rfl rfl rfl rfl rfl Jx (fun w _ hS=>(by exact bS false n.g 1 15 w)) ?_
  refine bA ?_;refine gE (ab.fQ rfl (gK (gS (gR ?_))));refine ai ?_;refine gE ?_
  refine gT Jp fun w' hS=>?_
  exact ⟨hS.ext,by rw [show aK n at_=0 from (aY hop hox hoy).trans (kE hfa (by simp [h3,h17,hA,hG];omega))];rfl⟩
theorem yu (n:NV) (at_:Int) (w:World):Cn Tryz.prog 102 [n.v,.int .i64 at_] w (fun v _=>v=.int .i64 (aK n at_)):=by
 by_cases hop:1≤n.op∧n.op≤21
 ·obtain ⟨op,i,e,g,x,y⟩:=n
  dsimp only at hop
  have hcs:op=1∨op=2∨op=3∨op=4∨op=5∨op=6∨op=7∨op=8∨op=9∨op=10∨op=11∨op=12∨op=13∨op=14∨op=15∨op=16∨op=17∨op=18∨op=19∨op=20∨op=21:=by omega
  rcases hcs with rfl|rfl|rfl|rfl|rfl|rfl|rfl|rfl|rfl|rfl|rfl|rfl|rfl|rfl|rfl|rfl|rfl|rfl|rfl|rfl|rfl
  ·exact qY ⟨1,i,e,g,x,y⟩ at_ _ w hop rfl rfl rfl rfl rfl rfl rfl rfl
  ·exact qY ⟨2,i,e,g,x,y⟩ at_ _ w hop rfl rfl rfl rfl rfl rfl rfl rfl
  ·exact wK ⟨3,i,e,g,x,y⟩ at_ _ w hop rfl rfl rfl rfl rfl rfl rfl rfl
  ·exact pJ ⟨4,i,e,g,x,y⟩ at_ _ w hop rfl rfl rfl rfl rfl rfl rfl rfl
  ·exact je ⟨5,i,e,g,x,y⟩ at_ _ w hop rfl rfl rfl rfl rfl rfl rfl rfl
  ·exact je ⟨6,i,e,g,x,y⟩ at_ _ w hop rfl rfl rfl rfl rfl rfl rfl rfl
  ·exact je ⟨7,i,e,g,x,y⟩ at_ _ w hop rfl rfl rfl rfl rfl rfl rfl rfl
  ·exact je ⟨8,i,e,g,x,y⟩ at_ _ w hop rfl rfl rfl rfl rfl rfl rfl rfl
  ·exact nM ⟨9,i,e,g,x,y⟩ at_ _ w hop rfl rfl rfl rfl rfl rfl rfl rfl
  ·exact nM ⟨10,i,e,g,x,y⟩ at_ _ w hop rfl rfl rfl rfl rfl rfl rfl rfl
  ·exact tf ⟨11,i,e,g,x,y⟩ at_ _ w hop rfl rfl rfl rfl rfl rfl rfl rfl
  ·exact tf ⟨12,i,e,g,x,y⟩ at_ _ w hop rfl rfl rfl rfl rfl rfl rfl rfl
  ·exact yt ⟨13,i,e,g,x,y⟩ at_ _ w hop rfl rfl rfl rfl rfl rfl rfl rfl
  ·exact yv ⟨14,i,e,g,x,y⟩ at_ _ w hop rfl rfl rfl rfl rfl rfl rfl rfl
  ·exact nM ⟨15,i,e,g,x,y⟩ at_ _ w hop rfl rfl rfl rfl rfl rfl rfl rfl
  ·exact je ⟨16,i,e,g,x,y⟩ at_ _ w hop rfl rfl rfl rfl rfl rfl rfl rfl
  ·exact yw ⟨17,i,e,g,x,y⟩ at_ _ w hop rfl rfl rfl rfl rfl rfl rfl rfl
  ·exact pJ ⟨18,i,e,g,x,y⟩ at_ _ w hop rfl rfl rfl rfl rfl rfl rfl rfl
  ·exact je ⟨19,i,e,g,x,y⟩ at_ _ w hop rfl rfl rfl rfl rfl rfl rfl rfl
  ·exact pJ ⟨20,i,e,g,x,y⟩ at_ _ w hop rfl rfl rfl rfl rfl rfl rfl rfl
  exact je ⟨21,i,e,g,x,y⟩ at_ _ w hop rfl rfl rfl rfl rfl rfl rfl rfl
 refine Cn.of Jp rfl rfl ?_
 have hK:=vy hop
 refine gS (gR ?_)
 refine ab.bx rfl rfl rfl rfl (fun b2=>?_)
 refine ai ?_;refine gE (gS (gR ?_));refine al Jg Je 0 ?_;refine aq Jf 0 ?_
 refine gP rfl rfl rfl rfl rfl call105 (fun w _ hS=>(by have:=gV n.op w;rw [hK] at this;exact this)) ?_
 refine ah ?_
 iterate 2 refine gh ?_
 refine ab.eK rfl rfl rfl (fun _=>J4 _) (fun b5=>?_)
 refine ab.dD rfl rfl rfl rfl Jq 0 rfl rfl rfl rfl ?_
 refine ai ?_;refine gE (gS (gS (gR ?_)));refine ah ?_;refine eV bB ?_;refine gE ?_
 refine ab.cond rfl (fun _=>?_) (fun hc=>by exfalso;simp at hc)
 refine gS (gR ?_);refine ai ?_;refine gE ?_
 refine gT Jp fun w' hS=>?_
 exact ⟨hS.ext,by rw [yx hop];rfl⟩
theorem fO (a:Option Addr) (ca:Nat) (f:List NV) (w:World) (ha:FA w a f) (hl:f.length≤maxLen):Cn Tryz.prog 54 [.slice a f.length ca] w (fun v _=>v=.int .i64 (aV f)):=by
  unfold maxLen at hl
  refine Cn.of func54 rfl rfl ?_
  refine gS (gR ?_);refine ai ?_;refine gE (gS (gS (gR ?_)));refine ah ?_;refine dL Jn ?_;refine aw bd ?_;refine gE ?_
  refine gC (fun hc=>?_) fun hc=>?_
  ·
   have h1:f.length=0:=by simpa using hc
   refine gS (gR ?_);refine ai ?_;refine gE ?_
   refine gT func54 fun w' hS=>?_
   exact ⟨hS.ext,by rw [aV,if_pos h1];rfl⟩
  have h1:¬f.length=0:=by simpa using hc
  refine gK (gS (gS (gR ?_)));refine ah ?_;refine dL Jn ?_;refine aw u5 ?_;refine gE ?_
  refine gC (fun hc=>?_) fun hc=>?_
  ·
   have h2:200<f.length:=by simp at hc;omega
   refine gS (gR ?_);refine ai ?_;refine gE ?_
   refine gT func54 fun w' hS=>?_
   exact ⟨hS.ext,by rw [aV,if_neg h1,if_pos h2];rfl⟩
  have h2:¬200<f.length:=by simp at hc;omega
  refine gK (gS (gS (gR ?_)));refine ah ?_;refine dL Jn ?_;refine ah ?_;refine gE (gB ?_)
  refine ab.loop (σ:=Nat) (fun k=>[(0,.slice a f.length ca),(12,.slice a f.length ca),(13,.int .i64 f.length),(14,.int .i64 k)]) (fun _=>[]) (fun k=>k≤f.length∧fz (wZ f) k=0) (fun k=>f.length - k) 0 ⟨Nat.zero_le _,rfl⟩ ⟨rfl,rfl,rfl,rfl,trivial⟩ .slnil (fun k hI IH=>?_)
  obtain ⟨hk,hz⟩:=hI
  refine gS (gR ?_);refine aw iK ?_;refine gE (gS ?_)
  refine gC (fun hc=>?_) fun hc=>?_
  ·
   have hlt:k<f.length:=by simpa using hc
   have he:wZ f k=aK f[k] k:=by simp [wZ,List.getD_eq_getElem?_getD,hlt]
   refine gK (gS (gB (gS (gR ?_))));refine ah ?_
   refine ab.v (ae.eg rfl rfl rfl rfl rfl Jn Ji ⟨_,(ha).at_⟩ (ax (enc:=NV.cells) (sz:=6) (fun _=>rfl)) (by decide) (k) ⟨rfl,hlt⟩) ?_
   refine ab.v (ae.nQ (cs:=NV.cells f[k]) rfl rfl rfl rfl Jy Ji (fun w _ hS=>Sl.many (enc:=NV.cells) (sz:=6) (ha.aA hS.ext).at_ (fun _=>rfl) hlt)) ?_
   refine ab.eK rfl rfl rfl (fun _=>Jw _) (fun b4=>?_)
   refine ai ?_
   refine ab.dD rfl rfl rfl rfl Ji 0 rfl rfl rfl rfl ?_
   refine gE (gS (gR ?_))
   refine ab.v (ae.iE rfl rfl rfl rfl Jy 0 rfl Ji rfl) ?_
   refine ah ?_
   refine gP rfl rfl rfl rfl rfl call102 (fun w _ hS=>(by exact yu f[k] k w)) ?_
   refine ai ?_;refine gE (gS (gR ?_));refine ah ?_;refine aw gO ?_;refine gE ?_
   refine gC (fun hc=>?_) fun hc=>?_
   ·
    have h3:aK f[k] k≠0:=by simpa using hc
    refine gS (gR ?_);refine ah ?_;refine ai ?_;refine gE ?_
    refine gT func54 fun w' hS=>?_
    exact ⟨hS.ext,by rw [aV,if_neg h1,if_neg h2,uP hz (by rw [he];exact h3) hlt,he];rfl⟩
   have h3:aK f[k] k=0:=by simpa using hc
   refine gK (dJ (gR ?_));refine cG rfl rfl rfl rfl (cu (by omega)) ?_;refine ah ?_;refine gE ?_
   exact IH (k+1) _ _ ⟨hlt,by rw [fz,if_neg (by simp [hz]),he];exact h3⟩ (by omega) ⟨rfl,rfl,rfl,rfl,trivial⟩ (.cons _ .slnil)
  have hge:¬k<f.length:=by simpa using hc
  obtain rfl:k=f.length:=by omega
  refine ab.exit rfl (gS (gR ?_))
  refine ai ?_;refine gE ?_
  refine gT func54 fun w' hS=>?_
  exact ⟨hS.ext,by rw [aV,if_neg h1,if_neg h2,hz];rfl⟩
end Go.Proofs.YtnfmegcknckahaaGreatDoor
