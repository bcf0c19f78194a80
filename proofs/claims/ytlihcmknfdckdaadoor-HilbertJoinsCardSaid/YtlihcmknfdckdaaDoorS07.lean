/- What calls of the program return, under the conditions that each theorem states. -/
import Derived.Test.YtlihcmknfdckdaaDoorS05
import Derived.Test.YtlihcmknfdckdaaDoorS06
import Derived.Test.YtlihcmknfdckdaaDoorS04
namespace Go.Proofs.YtlihcmknfdckdaaDoor
open Go.RowKit Go.Proofs.Wit Tryd
/-! nodes in memory -/
theorem nodeFsK : ∃ fs, Tryd.prog.underlying 80 = some (.struct fs) ∧ nodeFs fs 3 := ⟨_, underlying80, _, _, _, _, _, _, rfl, ⟨by decide, rfl, rfl⟩, ⟨by decide, rfl, rfl⟩, ⟨by decide, rfl, rfl⟩, ⟨by decide, rfl, rfl⟩, ⟨by decide, rfl, rfl⟩, ⟨by decide, rfl, rfl⟩⟩
theorem stoodK : Tryd.prog.stoodInHeld 80 = false := by kernel_rfl
theorem guardK : Tryd.prog.eqGuardType Tryd.prog.depth 80 = false := by kernel_rfl
theorem bEqN {a b : NV} : Bin Tryd.prog .eql 80 a.v b.v (.bool (a == b)) := by
 obtain ⟨fs, hu, hfs⟩ := nodeFsK
 exact bEqNode hu hfs underlying3 isAgg3 stoodK guardK
theorem infoN : (Tryd.prog.info? 80).map (fun i => (i.zero, i.size, i.bytes)) = some (some nv0.v, 6, 48) := by kernel_rfl
structure OutOk (q : Option Nat) (cap : Nat) (ts : List Tr) (sp : List Value) : Prop where
  nil : q = none → (nodesOf ts).length = 0 ∧ cap = 0
  cap : ((nodesOf ts).flatMap NV.cells ++ sp).length = cap * 6
  clo : Clo ts
  nd : ts.Nodup
  wf : ∀ u ∈ ts, u.wf
theorem nodup_idx {ts : List Tr} {t : Tr} (ht : t ∉ ts) : (ts ++ [t]).idxOf t = ts.length := by
 rw [List.idxOf_append, if_neg ht]; simp
end Go.Proofs.YtlihcmknfdckdaaDoor
namespace Go.Proofs.YtlihcmknfdckdaaDoor
open Go.RowKit Go.Proofs.Wit Tryd
/-! the program's check of a formula -/
set_option maxRecDepth 4000 in
theorem uses_c (op : Int) (w : World) : Cn Tryd.prog 126 [.int .i64 op] w (fun v _ => v = .tuple #[usV op, .bool (okO op)]) := by
  refine Cn.of func126 rfl rfl ?_
  refine gS (gR ?_)
  refine GoH.alc rfl rfl rfl (fun _ => zeroValue109 _) (fun b2 => ?_)
  refine gAs ?_; refine gE (gS (gS (gR ?_))); refine gMv ?_; refine gE (gB (gS (gS (gR ?_)))); refine gBi bEq ?_; refine gAs ?_; refine gE ?_
  refine gC (fun hc => ?_) fun hc => ?_
  ·
   have h : op = 1 := by simpa using hc
   refine gK ?_
   refine GoH.cond rfl (fun _ => ?_) (fun hc => by exfalso; simp [h] at hc)
   refine gS (gR ?_)
   refine GoH.v (Vop.bld rfl rfl rfl rfl (bld (c := [_, _, _, _, _, _, _]) underlying109 (Szs.cons sizeOf4 (Szs.cons sizeOf4 (Szs.cons sizeOf4 (Szs.cons sizeOf4 (Szs.cons sizeOf4 (Szs.cons sizeOf4 (Szs.cons sizeOf3 Szs.nil))))))) zeroValue109 rfl)) ?_
   refine GoH.stB rfl rfl rfl rfl sizeOf109 0 rfl rfl rfl rfl ?_
   refine gAs ?_; refine gE ?_
   refine GoH.retH Tryd.f126 func126 _ (resH.cell rfl isAgg109 sizeOf109 (j := 0) rfl rfl (resH.tmp rfl resH.nil)) (fun w' hS => ?_)
   exact ⟨hS.ext, by subst h; rfl⟩
  ·
   have h1 : op ≠ 1 := by simpa using hc
   refine gR ?_; refine gBi bEq ?_; refine gAs ?_; refine gE ?_
   refine gC (fun hc => ?_) fun hc => ?_
   ·
    have h : op = 2 := by simpa using hc
    refine gS (gR ?_)
    refine GoH.v (Vop.bld rfl rfl rfl rfl (bld (c := [_, _, _, _, _, _, _]) underlying109 (Szs.cons sizeOf4 (Szs.cons sizeOf4 (Szs.cons sizeOf4 (Szs.cons sizeOf4 (Szs.cons sizeOf4 (Szs.cons sizeOf4 (Szs.cons sizeOf3 Szs.nil))))))) zeroValue109 rfl)) ?_
    refine GoH.stB rfl rfl rfl rfl sizeOf109 0 rfl rfl rfl rfl ?_
    refine gAs ?_; refine gE ?_
    refine GoH.retH Tryd.f126 func126 _ (resH.cell rfl isAgg109 sizeOf109 (j := 0) rfl rfl (resH.tmp rfl resH.nil)) (fun w' hS => ?_)
    exact ⟨hS.ext, by subst h; rfl⟩
   ·
    have h2 : op ≠ 2 := by simpa using hc
    refine gS (gR ?_); refine gBi bEq ?_; refine gAs ?_; refine gE ?_
    refine gC (fun hc => ?_) fun hc => ?_
    ·
     have h : op = 3 := by simpa using hc
     refine gS (gR ?_)
     refine GoH.v (Vop.bld rfl rfl rfl rfl (bld (c := [_, _, _, _, _, _, _]) underlying109 (Szs.cons sizeOf4 (Szs.cons sizeOf4 (Szs.cons sizeOf4 (Szs.cons sizeOf4 (Szs.cons sizeOf4 (Szs.cons sizeOf4 (Szs.cons sizeOf3 Szs.nil))))))) zeroValue109 rfl)) ?_
     refine GoH.stB rfl rfl rfl rfl sizeOf109 0 rfl rfl rfl rfl ?_
     refine gAs ?_; refine gE ?_
     refine GoH.retH Tryd.f126 func126 _ (resH.cell rfl isAgg109 sizeOf109 (j := 0) rfl rfl (resH.tmp rfl resH.nil)) (fun w' hS => ?_)
     exact ⟨hS.ext, by subst h; rfl⟩
    ·
     have h3 : op ≠ 3 := by simpa using hc
     refine gS (gR ?_); refine gBi bEq ?_; refine gAs ?_; refine gE ?_
     refine gC (fun hc => ?_) fun hc => ?_
     ·
      have h : op = 4 := by simpa using hc
      refine gS (gR ?_)
      refine GoH.v (Vop.bld rfl rfl rfl rfl (bld (c := [_, _, _, _, _, _, _]) underlying109 (Szs.cons sizeOf4 (Szs.cons sizeOf4 (Szs.cons sizeOf4 (Szs.cons sizeOf4 (Szs.cons sizeOf4 (Szs.cons sizeOf4 (Szs.cons sizeOf3 Szs.nil))))))) zeroValue109 rfl)) ?_
      refine GoH.stB rfl rfl rfl rfl sizeOf109 0 rfl rfl rfl rfl ?_
      refine gAs ?_; refine gE ?_
      refine GoH.retH Tryd.f126 func126 _ (resH.cell rfl isAgg109 sizeOf109 (j := 0) rfl rfl (resH.tmp rfl resH.nil)) (fun w' hS => ?_)
      exact ⟨hS.ext, by subst h; rfl⟩
     ·
      have h4 : op ≠ 4 := by simpa using hc
      refine gS (gS (gR ?_)); refine gBi bEq ?_; refine gAs ?_; refine gE ?_
      refine gC (fun hc => ?_) fun hc => ?_
      ·
       have h : op = 5 := by simpa using hc
       refine gK ?_
       refine GoH.cond rfl (fun _ => ?_) (fun hc => by exfalso; simp [h] at hc)
       refine gS (gR ?_)
       refine GoH.v (Vop.bld rfl rfl rfl rfl (bld (c := [_, _, _, _, _, _, _]) underlying109 (Szs.cons sizeOf4 (Szs.cons sizeOf4 (Szs.cons sizeOf4 (Szs.cons sizeOf4 (Szs.cons sizeOf4 (Szs.cons sizeOf4 (Szs.cons sizeOf3 Szs.nil))))))) zeroValue109 rfl)) ?_
       refine GoH.stB rfl rfl rfl rfl sizeOf109 0 rfl rfl rfl rfl ?_
       refine gAs ?_; refine gE ?_
       refine GoH.retH Tryd.f126 func126 _ (resH.cell rfl isAgg109 sizeOf109 (j := 0) rfl rfl (resH.tmp rfl resH.nil)) (fun w' hS => ?_)
       exact ⟨hS.ext, by subst h; rfl⟩
      ·
       have h5 : op ≠ 5 := by simpa using hc
       refine gS (gR ?_); refine gBi bEq ?_; refine gAs ?_; refine gE ?_
       refine gC (fun hc => ?_) fun hc => ?_
       ·
        have h : op = 6 := by simpa using hc
        refine gK ?_
        refine GoH.cond rfl (fun _ => ?_) (fun hc => by exfalso; simp [h] at hc)
        refine gS (gR ?_)
        refine GoH.v (Vop.bld rfl rfl rfl rfl (bld (c := [_, _, _, _, _, _, _]) underlying109 (Szs.cons sizeOf4 (Szs.cons sizeOf4 (Szs.cons sizeOf4 (Szs.cons sizeOf4 (Szs.cons sizeOf4 (Szs.cons sizeOf4 (Szs.cons sizeOf3 Szs.nil))))))) zeroValue109 rfl)) ?_
        refine GoH.stB rfl rfl rfl rfl sizeOf109 0 rfl rfl rfl rfl ?_
        refine gAs ?_; refine gE ?_
        refine GoH.retH Tryd.f126 func126 _ (resH.cell rfl isAgg109 sizeOf109 (j := 0) rfl rfl (resH.tmp rfl resH.nil)) (fun w' hS => ?_)
        exact ⟨hS.ext, by subst h; rfl⟩
       ·
        have h6 : op ≠ 6 := by simpa using hc
        refine gS (gR ?_); refine gBi bEq ?_; refine gAs ?_; refine gE ?_
        refine gC (fun hc => ?_) fun hc => ?_
        ·
         have h : op = 7 := by simpa using hc
         refine gK ?_
         refine GoH.cond rfl (fun _ => ?_) (fun hc => by exfalso; simp [h] at hc)
         refine gS (gR ?_)
         refine GoH.v (Vop.bld rfl rfl rfl rfl (bld (c := [_, _, _, _, _, _, _]) underlying109 (Szs.cons sizeOf4 (Szs.cons sizeOf4 (Szs.cons sizeOf4 (Szs.cons sizeOf4 (Szs.cons sizeOf4 (Szs.cons sizeOf4 (Szs.cons sizeOf3 Szs.nil))))))) zeroValue109 rfl)) ?_
         refine GoH.stB rfl rfl rfl rfl sizeOf109 0 rfl rfl rfl rfl ?_
         refine gAs ?_; refine gE ?_
         refine GoH.retH Tryd.f126 func126 _ (resH.cell rfl isAgg109 sizeOf109 (j := 0) rfl rfl (resH.tmp rfl resH.nil)) (fun w' hS => ?_)
         exact ⟨hS.ext, by subst h; rfl⟩
        ·
         have h7 : op ≠ 7 := by simpa using hc
         refine gR ?_; refine gBi bEq ?_; refine gAs ?_; refine gE ?_
         refine gC (fun hc => ?_) fun hc => ?_
         ·
          have h : op = 8 := by simpa using hc
          refine gS (gR ?_)
          refine GoH.v (Vop.bld rfl rfl rfl rfl (bld (c := [_, _, _, _, _, _, _]) underlying109 (Szs.cons sizeOf4 (Szs.cons sizeOf4 (Szs.cons sizeOf4 (Szs.cons sizeOf4 (Szs.cons sizeOf4 (Szs.cons sizeOf4 (Szs.cons sizeOf3 Szs.nil))))))) zeroValue109 rfl)) ?_
          refine GoH.stB rfl rfl rfl rfl sizeOf109 0 rfl rfl rfl rfl ?_
          refine gAs ?_; refine gE ?_
          refine GoH.retH Tryd.f126 func126 _ (resH.cell rfl isAgg109 sizeOf109 (j := 0) rfl rfl (resH.tmp rfl resH.nil)) (fun w' hS => ?_)
          exact ⟨hS.ext, by subst h; rfl⟩
         ·
          have h8 : op ≠ 8 := by simpa using hc
          refine gS (gS (gR ?_)); refine gBi bEq ?_; refine gAs ?_; refine gE ?_
          refine gC (fun hc => ?_) fun hc => ?_
          ·
           have h : op = 9 := by simpa using hc
           refine gK ?_
           refine GoH.cond rfl (fun _ => ?_) (fun hc => by exfalso; simp [h] at hc)
           refine gS (gR ?_)
           refine GoH.v (Vop.bld rfl rfl rfl rfl (bld (c := [_, _, _, _, _, _, _]) underlying109 (Szs.cons sizeOf4 (Szs.cons sizeOf4 (Szs.cons sizeOf4 (Szs.cons sizeOf4 (Szs.cons sizeOf4 (Szs.cons sizeOf4 (Szs.cons sizeOf3 Szs.nil))))))) zeroValue109 rfl)) ?_
           refine GoH.stB rfl rfl rfl rfl sizeOf109 0 rfl rfl rfl rfl ?_
           refine gAs ?_; refine gE ?_
           refine GoH.retH Tryd.f126 func126 _ (resH.cell rfl isAgg109 sizeOf109 (j := 0) rfl rfl (resH.tmp rfl resH.nil)) (fun w' hS => ?_)
           exact ⟨hS.ext, by subst h; rfl⟩
          ·
           have h9 : op ≠ 9 := by simpa using hc
           refine gR ?_; refine gBi bEq ?_; refine gAs ?_; refine gE ?_
           refine gC (fun hc => ?_) fun hc => ?_
           ·
            have h : op = 10 := by simpa using hc
            refine gS (gR ?_)
            refine GoH.v (Vop.bld rfl rfl rfl rfl (bld (c := [_, _, _, _, _, _, _]) underlying109 (Szs.cons sizeOf4 (Szs.cons sizeOf4 (Szs.cons sizeOf4 (Szs.cons sizeOf4 (Szs.cons sizeOf4 (Szs.cons sizeOf4 (Szs.cons sizeOf3 Szs.nil))))))) zeroValue109 rfl)) ?_
            refine GoH.stB rfl rfl rfl rfl sizeOf109 0 rfl rfl rfl rfl ?_
            refine gAs ?_; refine gE ?_
            refine GoH.retH Tryd.f126 func126 _ (resH.cell rfl isAgg109 sizeOf109 (j := 0) rfl rfl (resH.tmp rfl resH.nil)) (fun w' hS => ?_)
            exact ⟨hS.ext, by subst h; rfl⟩
           ·
            have h10 : op ≠ 10 := by simpa using hc
            refine gS (gR ?_); refine gBi bEq ?_; refine gAs ?_; refine gE ?_
            refine gC (fun hc => ?_) fun hc => ?_
            ·
             have h : op = 11 := by simpa using hc
             refine gS (gR ?_)
             refine GoH.v (Vop.bld rfl rfl rfl rfl (bld (c := [_, _, _, _, _, _, _]) underlying109 (Szs.cons sizeOf4 (Szs.cons sizeOf4 (Szs.cons sizeOf4 (Szs.cons sizeOf4 (Szs.cons sizeOf4 (Szs.cons sizeOf4 (Szs.cons sizeOf3 Szs.nil))))))) zeroValue109 rfl)) ?_
             refine GoH.stB rfl rfl rfl rfl sizeOf109 0 rfl rfl rfl rfl ?_
             refine gAs ?_; refine gE ?_
             refine GoH.retH Tryd.f126 func126 _ (resH.cell rfl isAgg109 sizeOf109 (j := 0) rfl rfl (resH.tmp rfl resH.nil)) (fun w' hS => ?_)
             exact ⟨hS.ext, by subst h; rfl⟩
            ·
             have h11 : op ≠ 11 := by simpa using hc
             refine gS (gR ?_); refine gBi bEq ?_; refine gAs ?_; refine gE ?_
             refine gC (fun hc => ?_) fun hc => ?_
             ·
              have h : op = 12 := by simpa using hc
              refine gS (gR ?_)
              refine GoH.v (Vop.bld rfl rfl rfl rfl (bld (c := [_, _, _, _, _, _, _]) underlying109 (Szs.cons sizeOf4 (Szs.cons sizeOf4 (Szs.cons sizeOf4 (Szs.cons sizeOf4 (Szs.cons sizeOf4 (Szs.cons sizeOf4 (Szs.cons sizeOf3 Szs.nil))))))) zeroValue109 rfl)) ?_
              refine GoH.stB rfl rfl rfl rfl sizeOf109 0 rfl rfl rfl rfl ?_
              refine gAs ?_; refine gE ?_
              refine GoH.retH Tryd.f126 func126 _ (resH.cell rfl isAgg109 sizeOf109 (j := 0) rfl rfl (resH.tmp rfl resH.nil)) (fun w' hS => ?_)
              exact ⟨hS.ext, by subst h; rfl⟩
             ·
              have h12 : op ≠ 12 := by simpa using hc
              refine gS (gR ?_); refine gBi bEq ?_; refine gAs ?_; refine gE ?_
              refine gC (fun hc => ?_) fun hc => ?_
              ·
               have h : op = 13 := by simpa using hc
               refine gS (gR ?_)
               refine GoH.v (Vop.bld rfl rfl rfl rfl (bld (c := [_, _, _, _, _, _, _]) underlying109 (Szs.cons sizeOf4 (Szs.cons sizeOf4 (Szs.cons sizeOf4 (Szs.cons sizeOf4 (Szs.cons sizeOf4 (Szs.cons sizeOf4 (Szs.cons sizeOf3 Szs.nil))))))) zeroValue109 rfl)) ?_
               refine GoH.stB rfl rfl rfl rfl sizeOf109 0 rfl rfl rfl rfl ?_
               refine gAs ?_; refine gE ?_
               refine GoH.retH Tryd.f126 func126 _ (resH.cell rfl isAgg109 sizeOf109 (j := 0) rfl rfl (resH.tmp rfl resH.nil)) (fun w' hS => ?_)
               exact ⟨hS.ext, by subst h; rfl⟩
              ·
               have h13 : op ≠ 13 := by simpa using hc
               refine gS (gR ?_); refine gBi bEq ?_; refine gAs ?_; refine gE ?_
               refine gC (fun hc => ?_) fun hc => ?_
               ·
                have h : op = 14 := by simpa using hc
                refine gS (gR ?_)
                refine GoH.v (Vop.bld rfl rfl rfl rfl (bld (c := [_, _, _, _, _, _, _]) underlying109 (Szs.cons sizeOf4 (Szs.cons sizeOf4 (Szs.cons sizeOf4 (Szs.cons sizeOf4 (Szs.cons sizeOf4 (Szs.cons sizeOf4 (Szs.cons sizeOf3 Szs.nil))))))) zeroValue109 rfl)) ?_
                refine GoH.stB rfl rfl rfl rfl sizeOf109 0 rfl rfl rfl rfl ?_
                refine gAs ?_; refine gE ?_
                refine GoH.retH Tryd.f126 func126 _ (resH.cell rfl isAgg109 sizeOf109 (j := 0) rfl rfl (resH.tmp rfl resH.nil)) (fun w' hS => ?_)
                exact ⟨hS.ext, by subst h; rfl⟩
               ·
                have h14 : op ≠ 14 := by simpa using hc
                refine gS (gR ?_); refine gBi bEq ?_; refine gAs ?_; refine gE ?_
                refine gC (fun hc => ?_) fun hc => ?_
                ·
                 have h : op = 15 := by simpa using hc
                 refine gS (gR ?_)
                 refine GoH.v (Vop.bld rfl rfl rfl rfl (bld (c := [_, _, _, _, _, _, _]) underlying109 (Szs.cons sizeOf4 (Szs.cons sizeOf4 (Szs.cons sizeOf4 (Szs.cons sizeOf4 (Szs.cons sizeOf4 (Szs.cons sizeOf4 (Szs.cons sizeOf3 Szs.nil))))))) zeroValue109 rfl)) ?_
                 refine GoH.stB rfl rfl rfl rfl sizeOf109 0 rfl rfl rfl rfl ?_
                 refine gAs ?_; refine gE ?_
                 refine GoH.retH Tryd.f126 func126 _ (resH.cell rfl isAgg109 sizeOf109 (j := 0) rfl rfl (resH.tmp rfl resH.nil)) (fun w' hS => ?_)
                 exact ⟨hS.ext, by subst h; rfl⟩
                ·
                 have h15 : op ≠ 15 := by simpa using hc
                 refine gS (gR ?_); refine gBi bEq ?_; refine gAs ?_; refine gE ?_
                 refine gC (fun hc => ?_) fun hc => ?_
                 ·
                  have h : op = 16 := by simpa using hc
                  refine gS (gR ?_)
                  refine GoH.v (Vop.bld rfl rfl rfl rfl (bld (c := [_, _, _, _, _, _, _]) underlying109 (Szs.cons sizeOf4 (Szs.cons sizeOf4 (Szs.cons sizeOf4 (Szs.cons sizeOf4 (Szs.cons sizeOf4 (Szs.cons sizeOf4 (Szs.cons sizeOf3 Szs.nil))))))) zeroValue109 rfl)) ?_
                  refine GoH.stB rfl rfl rfl rfl sizeOf109 0 rfl rfl rfl rfl ?_
                  refine gAs ?_; refine gE ?_
                  refine GoH.retH Tryd.f126 func126 _ (resH.cell rfl isAgg109 sizeOf109 (j := 0) rfl rfl (resH.tmp rfl resH.nil)) (fun w' hS => ?_)
                  exact ⟨hS.ext, by subst h; rfl⟩
                 ·
                  have h16 : op ≠ 16 := by simpa using hc
                  refine gS (gR ?_); refine gBi bEq ?_; refine gAs ?_; refine gE ?_
                  refine gC (fun hc => ?_) fun hc => ?_
                  ·
                   have h : op = 17 := by simpa using hc
                   refine gS (gR ?_)
                   refine GoH.v (Vop.bld rfl rfl rfl rfl (bld (c := [_, _, _, _, _, _, _]) underlying109 (Szs.cons sizeOf4 (Szs.cons sizeOf4 (Szs.cons sizeOf4 (Szs.cons sizeOf4 (Szs.cons sizeOf4 (Szs.cons sizeOf4 (Szs.cons sizeOf3 Szs.nil))))))) zeroValue109 rfl)) ?_
                   refine GoH.stB rfl rfl rfl rfl sizeOf109 0 rfl rfl rfl rfl ?_
                   refine gAs ?_; refine gE ?_
                   refine GoH.retH Tryd.f126 func126 _ (resH.cell rfl isAgg109 sizeOf109 (j := 0) rfl rfl (resH.tmp rfl resH.nil)) (fun w' hS => ?_)
                   exact ⟨hS.ext, by subst h; rfl⟩
                  ·
                   have h17 : op ≠ 17 := by simpa using hc
                   refine gS (gS (gR ?_)); refine gBi bEq ?_; refine gAs ?_; refine gE ?_
                   refine gC (fun hc => ?_) fun hc => ?_
                   ·
                    have h : op = 18 := by simpa using hc
                    refine gK ?_
                    refine GoH.cond rfl (fun _ => ?_) (fun hc => by exfalso; simp [h] at hc)
                    refine gS (gR ?_)
                    refine GoH.v (Vop.bld rfl rfl rfl rfl (bld (c := [_, _, _, _, _, _, _]) underlying109 (Szs.cons sizeOf4 (Szs.cons sizeOf4 (Szs.cons sizeOf4 (Szs.cons sizeOf4 (Szs.cons sizeOf4 (Szs.cons sizeOf4 (Szs.cons sizeOf3 Szs.nil))))))) zeroValue109 rfl)) ?_
                    refine GoH.stB rfl rfl rfl rfl sizeOf109 0 rfl rfl rfl rfl ?_
                    refine gAs ?_; refine gE ?_
                    refine GoH.retH Tryd.f126 func126 _ (resH.cell rfl isAgg109 sizeOf109 (j := 0) rfl rfl (resH.tmp rfl resH.nil)) (fun w' hS => ?_)
                    exact ⟨hS.ext, by subst h; rfl⟩
                   ·
                    have h18 : op ≠ 18 := by simpa using hc
                    refine gR ?_; refine gBi bEq ?_; refine gAs ?_; refine gE ?_
                    refine gC (fun hc => ?_) fun hc => ?_
                    ·
                     have h : op = 20 := by simpa using hc
                     refine gS (gR ?_)
                     refine GoH.v (Vop.bld rfl rfl rfl rfl (bld (c := [_, _, _, _, _, _, _]) underlying109 (Szs.cons sizeOf4 (Szs.cons sizeOf4 (Szs.cons sizeOf4 (Szs.cons sizeOf4 (Szs.cons sizeOf4 (Szs.cons sizeOf4 (Szs.cons sizeOf3 Szs.nil))))))) zeroValue109 rfl)) ?_
                     refine GoH.stB rfl rfl rfl rfl sizeOf109 0 rfl rfl rfl rfl ?_
                     refine gAs ?_; refine gE ?_
                     refine GoH.retH Tryd.f126 func126 _ (resH.cell rfl isAgg109 sizeOf109 (j := 0) rfl rfl (resH.tmp rfl resH.nil)) (fun w' hS => ?_)
                     exact ⟨hS.ext, by subst h; rfl⟩
                    ·
                     have h20 : op ≠ 20 := by simpa using hc
                     refine gS (gS (gR ?_)); refine gBi bEq ?_; refine gAs ?_; refine gE ?_
                     refine gC (fun hc => ?_) fun hc => ?_
                     ·
                      have h : op = 19 := by simpa using hc
                      refine gK ?_
                      refine GoH.cond rfl (fun _ => ?_) (fun hc => by exfalso; simp [h] at hc)
                      refine gS (gR ?_)
                      refine GoH.v (Vop.bld rfl rfl rfl rfl (bld (c := [_, _, _, _, _, _, _]) underlying109 (Szs.cons sizeOf4 (Szs.cons sizeOf4 (Szs.cons sizeOf4 (Szs.cons sizeOf4 (Szs.cons sizeOf4 (Szs.cons sizeOf4 (Szs.cons sizeOf3 Szs.nil))))))) zeroValue109 rfl)) ?_
                      refine GoH.stB rfl rfl rfl rfl sizeOf109 0 rfl rfl rfl rfl ?_
                      refine gAs ?_; refine gE ?_
                      refine GoH.retH Tryd.f126 func126 _ (resH.cell rfl isAgg109 sizeOf109 (j := 0) rfl rfl (resH.tmp rfl resH.nil)) (fun w' hS => ?_)
                      exact ⟨hS.ext, by subst h; rfl⟩
                     ·
                      have h19 : op ≠ 19 := by simpa using hc
                      refine gR ?_; refine gBi bEq ?_; refine gAs ?_; refine gE ?_
                      refine gC (fun hc => ?_) fun hc => ?_
                      ·
                       have h : op = 21 := by simpa using hc
                       refine gS (gR ?_)
                       refine GoH.v (Vop.bld rfl rfl rfl rfl (bld (c := [_, _, _, _, _, _, _]) underlying109 (Szs.cons sizeOf4 (Szs.cons sizeOf4 (Szs.cons sizeOf4 (Szs.cons sizeOf4 (Szs.cons sizeOf4 (Szs.cons sizeOf4 (Szs.cons sizeOf3 Szs.nil))))))) zeroValue109 rfl)) ?_
                       refine GoH.stB rfl rfl rfl rfl sizeOf109 0 rfl rfl rfl rfl ?_
                       refine gAs ?_; refine gE ?_
                       refine GoH.retH Tryd.f126 func126 _ (resH.cell rfl isAgg109 sizeOf109 (j := 0) rfl rfl (resH.tmp rfl resH.nil)) (fun w' hS => ?_)
                       exact ⟨hS.ext, by subst h; rfl⟩
                      ·
                       have h21 : op ≠ 21 := by simpa using hc
                       refine gK (gIb (gS (gR ?_)))
                       refine GoH.v (Vop.bld rfl rfl rfl rfl (bld (c := [_, _, _, _, _, _, _]) underlying109 (Szs.cons sizeOf4 (Szs.cons sizeOf4 (Szs.cons sizeOf4 (Szs.cons sizeOf4 (Szs.cons sizeOf4 (Szs.cons sizeOf4 (Szs.cons sizeOf3 Szs.nil))))))) zeroValue109 rfl)) ?_
                       refine GoH.stB rfl rfl rfl rfl sizeOf109 0 rfl rfl rfl rfl ?_
                       refine gAs ?_; refine gE ?_
                       refine GoH.retH Tryd.f126 func126 _ (resH.cell rfl isAgg109 sizeOf109 (j := 0) rfl rfl (resH.tmp rfl resH.nil)) (fun w' hS => ?_)
                       exact ⟨hS.ext, by rw [usV_out (by omega), okO_out (by omega)]; rfl⟩
theorem operand_c (u : Bool) (x at_ : Int) (w : World) : Cn Tryd.prog 129 [.bool u, .int .i64 x, .int .i64 at_] w (fun v _ => v = .bool (opB u x at_)) := by
  refine Cn.of func129 rfl rfl ?_
  refine gS (gR ?_); refine gAs ?_; refine gE (gS (gR ?_))
  iterate 2 refine gMv ?_
  refine gCs 8 (fun hc => ?_) fun hc => ?_
  ·
   have hu : u = true := hc
   subst hu
   refine gMv ?_; refine gBi bGe ?_; refine gPt ?_; refine gMv ?_
   refine gCs 12 (fun hc => ?_) fun hc => ?_
   ·
    have h1 : 0 ≤ x := by simpa using hc
    iterate 2 refine gMv ?_
    refine gBi bLt ?_; refine gPt ?_; refine gMv ?_
    refine gCs 17 (fun hc => ?_) fun hc => ?_
    ·
     have h2 : x < at_ := by simpa using hc
     iterate 6 refine gNo ?_
     refine gPt ?_; refine gAs ?_; refine gE ?_
     refine gT func129 fun w' hS => ?_
     exact ⟨hS.ext, by simp [opB, h1, h2, retV]⟩
    ·
     have h2 : ¬ x < at_ := by simpa using hc
     refine gMv ?_; refine gUn uNot ?_; refine gMv ?_
     refine gCs 20 (fun hc => ?_) fun hc => ?_
     ·
      simp at hc
     ·
      iterate 2 refine gNo ?_
      iterate 2 refine gPf ?_
      refine gAs ?_; refine gE ?_
      refine gT func129 fun w' hS => ?_
      exact ⟨hS.ext, by simp [opB, h1, h2, retV]⟩
   ·
    have h1 : ¬ 0 ≤ x := by simpa using hc
    iterate 3 refine gNo ?_
    refine gPf ?_
    iterate 2 refine gMv ?_
    refine gUn uNot ?_; refine gMv ?_
    refine gCs 20 (fun hc => ?_) fun hc => ?_
    ·
     simp at hc
    ·
     iterate 2 refine gNo ?_
     iterate 2 refine gPf ?_
     refine gAs ?_; refine gE ?_
     refine gT func129 fun w' hS => ?_
     exact ⟨hS.ext, by simp [opB, h1, retV]⟩
  ·
   have hu : u = false := hc
   subst hu
   iterate 2 refine gNo ?_
   refine gPf ?_; refine gMv ?_
   iterate 3 refine gNo ?_
   refine gPf ?_
   iterate 2 refine gMv ?_
   refine gUn uNot ?_; refine gMv ?_
   refine gCs 20 (fun hc => ?_) fun hc => ?_
   ·
    refine gMv ?_; refine gBi bEq ?_; refine gPt ?_; refine gPf ?_; refine gAs ?_; refine gE ?_
    refine gT func129 fun w' hS => ?_
    exact ⟨hS.ext, by simp [opB, retV]⟩
   ·
    simp at hc
theorem rng_c (u : Bool) (x lo hi : Int) (w : World) : Cn Tryd.prog 130 [.bool u, .int .i64 x, .int .i64 lo, .int .i64 hi] w (fun v _ => v = .bool (rngB u x lo hi)) := by
  refine Cn.of func130 rfl rfl ?_
  refine gS (gR ?_); refine gAs ?_; refine gE (gS (gR ?_))
  iterate 2 refine gMv ?_
  refine gCs 10 (fun hc => ?_) fun hc => ?_
  ·
   have hu : u = true := hc
   subst hu
   iterate 2 refine gMv ?_
   refine gBi bLt ?_; refine gMv ?_
   refine gCs 14 (fun hc => ?_) fun hc => ?_
   ·
    have h1 : x < lo := by simpa using hc
    iterate 3 refine gNo ?_
    iterate 2 refine gPt ?_
    refine gAs ?_; refine gE ?_
    refine gT func130 fun w' hS => ?_
    exact ⟨hS.ext, by simp [rngB, h1, retV]⟩
   ·
    have h1 : ¬ x < lo := by simpa using hc
    iterate 2 refine gMv ?_
    refine gBi bGt ?_; refine gPf ?_; refine gPt ?_; refine gAs ?_; refine gE ?_
    refine gT func130 fun w' hS => ?_
    exact ⟨hS.ext, by simp [rngB, h1, retV]⟩
  ·
   have hu : u = false := hc
   subst hu
   iterate 8 refine gNo ?_
   refine gPf ?_; refine gAs ?_; refine gE ?_
   refine gT func130 fun w' hS => ?_
   exact ⟨hS.ext, by simp [rngB, retV]⟩
set_option maxRecDepth 4000 in
theorem node_leaf (n : NV) (at_ fr : Int) (w : World) (hop : 1 ≤ n.op ∧ n.op ≤ 21) (hX : usX n.op = false) (hY : usY n.op = false) (h3 : (n.op == 3) = false) (hA : agO n.op = false) (h17 : (n.op == 17) = false) (hG : grO n.op = false) (hU : usV n.op = .agg #[.bool false, .bool false, .bool false, .bool false, .bool false, .bool false, .int .i64 fr]) (hK : okO n.op = true) :
    Cn Tryd.prog 105 [n.v, .int .i64 at_] w (fun v _ => v = .int .i64 (nodeE n at_)) := by
  refine Cn.of func105 rfl rfl ?_
  refine gS (gR ?_)
  refine GoH.bx rfl rfl rfl rfl (fun b2 => ?_)
  refine gAs ?_; refine gE (gS (gR ?_)); refine gFp underlying80 sizeOf3 0 ?_; refine gLo isAgg3 0 ?_
  refine gP rfl rfl rfl rfl rfl call126 (fun w _ hS => (by have := uses_c n.op w; rw [hU, hK] at this; exact this)) ?_
  refine gMv ?_
  iterate 2 refine gEx ?_
  refine GoH.alc rfl rfl rfl (fun _ => zeroValue109 _) (fun b5 => ?_)
  refine GoH.stB rfl rfl rfl rfl sizeOf109 0 rfl rfl rfl rfl ?_
  refine gAs ?_; refine gE (gS (gS (gR ?_))); refine gMv ?_; refine gUn uNot ?_; refine gE ?_
  refine GoH.cond rfl (fun hc => by exfalso; simp at hc) (fun _ => ?_)
  refine gK (gS (gS (gR ?_))); refine gFp underlying109 sizeOf4 0 ?_; refine gLo isAgg4 0 ?_; refine gFp underlying80 sizeOf3 4 ?_; refine gLo isAgg3 1 ?_; refine gMv ?_
  refine gP rfl rfl rfl rfl rfl call129 (fun w _ hS => (by exact operand_c false n.x at_ w)) ?_
  refine gUn uNot ?_; refine gMv ?_
  refine gCs 23 (fun hc => ?_) fun hc => ?_
  ·
   have hb : opB (usX n.op) n.x at_ = false := by rw [hX]; simpa using hc
   iterate 7 refine gNo ?_
   refine gPt ?_; refine gE (GoH.condT rfl (gS (gR ?_))); refine gAs ?_; refine gE ?_
   refine gT func105 fun w' hS => ?_
   exact ⟨hS.ext, by rw [show nodeE n at_ = 3 from nodeE_x hop hb]; rfl⟩
  ·
   have hox : opB (usX n.op) n.x at_ = true := by rw [hX]; simpa using hc
   refine gFp underlying109 sizeOf4 1 ?_; refine gLo isAgg4 0 ?_; refine gFp underlying80 sizeOf3 5 ?_; refine gLo isAgg3 1 ?_; refine gMv ?_
   refine gP rfl rfl rfl rfl rfl call129 (fun w _ hS => (by exact operand_c false n.y at_ w)) ?_
   refine gUn uNot ?_; refine gPf ?_; refine gE ?_
   refine gC (fun hc => ?_) fun hc => ?_
   ·
    have hb : opB (usY n.op) n.y at_ = false := by rw [hY]; simpa using hc
    refine gS (gR ?_); refine gAs ?_; refine gE ?_
    refine gT func105 fun w' hS => ?_
    exact ⟨hS.ext, by rw [show nodeE n at_ = 3 from nodeE_y hop hb]; rfl⟩
   ·
    have hoy : opB (usY n.op) n.y at_ = true := by rw [hY]; simpa using hc
    refine gK (gS (gS (gR ?_))); refine gFp underlying109 sizeOf4 2 ?_; refine gLo isAgg4 0 ?_; refine gMv ?_; refine gFp underlying109 sizeOf4 3 ?_; refine gLo isAgg4 0 ?_; refine gPf ?_; refine gMv ?_; refine gFp underlying109 sizeOf4 5 ?_; refine gLo isAgg4 0 ?_; refine gPf ?_; refine gUn uNot ?_; refine gMv ?_; refine gFp underlying80 sizeOf3 1 ?_
    refine gLo isAgg3 1 ?_; refine gBi bNe ?_; refine gPt ?_; refine gMv ?_
    refine gCs 48 (fun hc => ?_) fun hc => ?_
    ·
     have hb : n.i ≠ 0 := by simpa using hc
     iterate 8 refine gNo ?_
     refine gPt ?_; refine gMv ?_
     iterate 8 refine gNo ?_
     refine gPt ?_; refine gE (GoH.condT rfl (gS (gR ?_))); refine gAs ?_; refine gE ?_
     refine gT func105 fun w' hS => ?_
     exact ⟨hS.ext, by rw [show nodeE n at_ = 3 from (nodeE_f hop hox hoy).trans (fldE_3 (by simp [iO, bne, h3, h17, hA, hG]; omega))]; rfl⟩
    ·
     have hzi : n.i = 0 := by simpa using hc
     refine gFp underlying109 sizeOf4 5 ?_; refine gLo isAgg4 0 ?_; refine gUn uNot ?_; refine gMv ?_; refine gFp underlying80 sizeOf3 2 ?_; refine gLo isAgg3 1 ?_; refine gBi bNe ?_; refine gPt ?_; refine gPf ?_; refine gMv ?_
     refine gCs 58 (fun hc => ?_) fun hc => ?_
     ·
      have hb : n.e ≠ 0 := by simpa using hc
      iterate 8 refine gNo ?_
      refine gPt ?_; refine gE (GoH.condT rfl (gS (gR ?_))); refine gAs ?_; refine gE ?_
      refine gT func105 fun w' hS => ?_
      exact ⟨hS.ext, by rw [show nodeE n at_ = 3 from (nodeE_f hop hox hoy).trans (fldE_3 (by simp [iO, bne, h3, h17, hA, hG]; omega))]; rfl⟩
     ·
      have hze : n.e = 0 := by simpa using hc
      refine gFp underlying109 sizeOf4 4 ?_; refine gLo isAgg4 0 ?_; refine gUn uNot ?_; refine gMv ?_; refine gFp underlying80 sizeOf3 3 ?_; refine gLo isAgg3 1 ?_; refine gBi bNe ?_; refine gPt ?_; refine gPf ?_; refine gE ?_
      refine gC (fun hc => ?_) fun hc => ?_
      ·
       have hb : n.g ≠ 0 := by simpa using hc
       refine gS (gR ?_); refine gAs ?_; refine gE ?_
       refine gT func105 fun w' hS => ?_
       exact ⟨hS.ext, by rw [show nodeE n at_ = 3 from (nodeE_f hop hox hoy).trans (fldE_3 (by simp [iO, bne, h3, h17, hA, hG]; omega))]; rfl⟩
      ·
       have hzg : n.g = 0 := by simpa using hc
       have hfa : (!iO n.op && n.i != 0 || n.op != 17 && n.e != 0 || !grO n.op && n.g != 0) = false := by simp [iO, bne, h3, h17, hA, hG]; omega
       refine gK (gS (gR ?_)); refine gAs ?_; refine gE (gS (gS (gR ?_))); refine gMv ?_; refine gFp underlying109 sizeOf4 2 ?_; refine gLo isAgg4 0 ?_; refine gFp underlying80 sizeOf3 1 ?_; refine gLo isAgg3 1 ?_
       refine gP rfl rfl rfl rfl rfl call130 (fun w _ hS => (by exact rng_c false n.i 0 7 w)) ?_
       iterate 2 refine gMv ?_
       refine gFp underlying109 sizeOf4 3 ?_; refine gLo isAgg4 0 ?_; refine gFp underlying80 sizeOf3 1 ?_; refine gLo isAgg3 1 ?_
       refine gP rfl rfl rfl rfl rfl call130 (fun w _ hS => (by exact rng_c false n.i 0 3 w)) ?_
       refine gPf ?_
       iterate 2 refine gMv ?_
       refine gFp underlying109 sizeOf4 5 ?_; refine gLo isAgg4 0 ?_; refine gFp underlying80 sizeOf3 1 ?_; refine gLo isAgg3 1 ?_
       refine gP rfl rfl rfl rfl rfl call130 (fun w _ hS => (by exact rng_c false n.i 0 7 w)) ?_
       refine gPf ?_
       iterate 2 refine gMv ?_
       refine gFp underlying109 sizeOf4 5 ?_; refine gLo isAgg4 0 ?_; refine gFp underlying80 sizeOf3 2 ?_; refine gLo isAgg3 1 ?_
       refine gP rfl rfl rfl rfl rfl call130 (fun w _ hS => (by exact rng_c false n.e 0 7 w)) ?_
       refine gPf ?_
       iterate 2 refine gMv ?_
       refine gFp underlying109 sizeOf4 4 ?_; refine gLo isAgg4 0 ?_; refine gFp underlying80 sizeOf3 3 ?_; refine gLo isAgg3 1 ?_
       refine gP rfl rfl rfl rfl rfl call130 (fun w _ hS => (by exact rng_c false n.g 1 15 w)) ?_
       refine gPf ?_; refine gE (GoH.condF rfl (gK (gS (gR ?_)))); refine gAs ?_; refine gE ?_
       refine gT func105 fun w' hS => ?_
       exact ⟨hS.ext, by rw [show nodeE n at_ = 0 from (nodeE_f hop hox hoy).trans (fldE_0 hfa (by simp [h3, h17, hA, hG]))]; rfl⟩
set_option maxRecDepth 4000 in
theorem node_fact (n : NV) (at_ fr : Int) (w : World) (hop : 1 ≤ n.op ∧ n.op ≤ 21) (hX : usX n.op = false) (hY : usY n.op = false) (h3 : (n.op == 3) = true) (hA : agO n.op = false) (h17 : (n.op == 17) = false) (hG : grO n.op = false) (hU : usV n.op = .agg #[.bool false, .bool false, .bool true, .bool false, .bool false, .bool false, .int .i64 fr]) (hK : okO n.op = true) :
    Cn Tryd.prog 105 [n.v, .int .i64 at_] w (fun v _ => v = .int .i64 (nodeE n at_)) := by
  refine Cn.of func105 rfl rfl ?_
  refine gS (gR ?_)
  refine GoH.bx rfl rfl rfl rfl (fun b2 => ?_)
  refine gAs ?_; refine gE (gS (gR ?_)); refine gFp underlying80 sizeOf3 0 ?_; refine gLo isAgg3 0 ?_
  refine gP rfl rfl rfl rfl rfl call126 (fun w _ hS => (by have := uses_c n.op w; rw [hU, hK] at this; exact this)) ?_
  refine gMv ?_
  iterate 2 refine gEx ?_
  refine GoH.alc rfl rfl rfl (fun _ => zeroValue109 _) (fun b5 => ?_)
  refine GoH.stB rfl rfl rfl rfl sizeOf109 0 rfl rfl rfl rfl ?_
  refine gAs ?_; refine gE (gS (gS (gR ?_))); refine gMv ?_; refine gUn uNot ?_; refine gE ?_
  refine GoH.cond rfl (fun hc => by exfalso; simp at hc) (fun _ => ?_)
  refine gK (gS (gS (gR ?_))); refine gFp underlying109 sizeOf4 0 ?_; refine gLo isAgg4 0 ?_; refine gFp underlying80 sizeOf3 4 ?_; refine gLo isAgg3 1 ?_; refine gMv ?_
  refine gP rfl rfl rfl rfl rfl call129 (fun w _ hS => (by exact operand_c false n.x at_ w)) ?_
  refine gUn uNot ?_; refine gMv ?_
  refine gCs 23 (fun hc => ?_) fun hc => ?_
  ·
   have hb : opB (usX n.op) n.x at_ = false := by rw [hX]; simpa using hc
   iterate 7 refine gNo ?_
   refine gPt ?_; refine gE (GoH.condT rfl (gS (gR ?_))); refine gAs ?_; refine gE ?_
   refine gT func105 fun w' hS => ?_
   exact ⟨hS.ext, by rw [show nodeE n at_ = 3 from nodeE_x hop hb]; rfl⟩
  ·
   have hox : opB (usX n.op) n.x at_ = true := by rw [hX]; simpa using hc
   refine gFp underlying109 sizeOf4 1 ?_; refine gLo isAgg4 0 ?_; refine gFp underlying80 sizeOf3 5 ?_; refine gLo isAgg3 1 ?_; refine gMv ?_
   refine gP rfl rfl rfl rfl rfl call129 (fun w _ hS => (by exact operand_c false n.y at_ w)) ?_
   refine gUn uNot ?_; refine gPf ?_; refine gE ?_
   refine gC (fun hc => ?_) fun hc => ?_
   ·
    have hb : opB (usY n.op) n.y at_ = false := by rw [hY]; simpa using hc
    refine gS (gR ?_); refine gAs ?_; refine gE ?_
    refine gT func105 fun w' hS => ?_
    exact ⟨hS.ext, by rw [show nodeE n at_ = 3 from nodeE_y hop hb]; rfl⟩
   ·
    have hoy : opB (usY n.op) n.y at_ = true := by rw [hY]; simpa using hc
    refine gK (gS (gS (gR ?_))); refine gFp underlying109 sizeOf4 2 ?_; refine gLo isAgg4 0 ?_; refine gMv ?_
    iterate 2 refine gNo ?_
    refine gPt ?_; refine gMv ?_
    iterate 2 refine gNo ?_
    refine gPt ?_; refine gUn uNot ?_; refine gMv ?_
    iterate 3 refine gNo ?_
    refine gPf ?_; refine gMv ?_; refine gFp underlying109 sizeOf4 5 ?_; refine gLo isAgg4 0 ?_; refine gUn uNot ?_; refine gMv ?_; refine gFp underlying80 sizeOf3 2 ?_; refine gLo isAgg3 1 ?_; refine gBi bNe ?_; refine gPt ?_; refine gPf ?_; refine gMv ?_
    refine gCs 58 (fun hc => ?_) fun hc => ?_
    ·
     have hb : n.e ≠ 0 := by simpa using hc
     iterate 8 refine gNo ?_
     refine gPt ?_; refine gE (GoH.condT rfl (gS (gR ?_))); refine gAs ?_; refine gE ?_
     refine gT func105 fun w' hS => ?_
     exact ⟨hS.ext, by rw [show nodeE n at_ = 3 from (nodeE_f hop hox hoy).trans (fldE_3 (by simp [iO, bne, h3, h17, hA, hG]; omega))]; rfl⟩
    ·
     have hze : n.e = 0 := by simpa using hc
     refine gFp underlying109 sizeOf4 4 ?_; refine gLo isAgg4 0 ?_; refine gUn uNot ?_; refine gMv ?_; refine gFp underlying80 sizeOf3 3 ?_; refine gLo isAgg3 1 ?_; refine gBi bNe ?_; refine gPt ?_; refine gPf ?_; refine gE ?_
     refine gC (fun hc => ?_) fun hc => ?_
     ·
      have hb : n.g ≠ 0 := by simpa using hc
      refine gS (gR ?_); refine gAs ?_; refine gE ?_
      refine gT func105 fun w' hS => ?_
      exact ⟨hS.ext, by rw [show nodeE n at_ = 3 from (nodeE_f hop hox hoy).trans (fldE_3 (by simp [iO, bne, h3, h17, hA, hG]; omega))]; rfl⟩
     ·
      have hzg : n.g = 0 := by simpa using hc
      have hfa : (!iO n.op && n.i != 0 || n.op != 17 && n.e != 0 || !grO n.op && n.g != 0) = false := by simp [iO, bne, h3, h17, hA, hG]; omega
      refine gK (gS (gR ?_)); refine gAs ?_; refine gE (gS (gS (gR ?_))); refine gMv ?_; refine gFp underlying109 sizeOf4 2 ?_; refine gLo isAgg4 0 ?_; refine gFp underlying80 sizeOf3 1 ?_; refine gLo isAgg3 1 ?_
      refine gP rfl rfl rfl rfl rfl call130 (fun w _ hS => (by exact rng_c true n.i 0 7 w)) ?_
      refine gMv ?_
      refine gCs 74 (fun hc => ?_) fun hc => ?_
      ·
       have hb : n.i < 0 ∨ 7 < n.i := by simpa [rngB] using hc
       iterate 6 refine gNo ?_
       refine gPt ?_; refine gMv ?_
       iterate 6 refine gNo ?_
       refine gPt ?_; refine gMv ?_
       iterate 6 refine gNo ?_
       refine gPt ?_; refine gMv ?_
       iterate 6 refine gNo ?_
       refine gPt ?_; refine gE (GoH.condT rfl (gS (gR ?_))); refine gAs ?_; refine gE ?_
       refine gT func105 fun w' hS => ?_
       exact ⟨hS.ext, by rw [show nodeE n at_ = 2 from (nodeE_f hop hox hoy).trans (fldE_2 hfa (by simp [h3, h17, hA, hG]; omega))]; rfl⟩
      ·
       have hr3 : 0 ≤ n.i ∧ n.i ≤ 7 := by simpa [rngB] using hc
       refine gMv ?_; refine gFp underlying109 sizeOf4 3 ?_; refine gLo isAgg4 0 ?_; refine gFp underlying80 sizeOf3 1 ?_; refine gLo isAgg3 1 ?_
       refine gP rfl rfl rfl rfl rfl call130 (fun w _ hS => (by exact rng_c false n.i 0 3 w)) ?_
       refine gPf ?_
       iterate 2 refine gMv ?_
       refine gFp underlying109 sizeOf4 5 ?_; refine gLo isAgg4 0 ?_; refine gFp underlying80 sizeOf3 1 ?_; refine gLo isAgg3 1 ?_
       refine gP rfl rfl rfl rfl rfl call130 (fun w _ hS => (by exact rng_c false n.i 0 7 w)) ?_
       refine gPf ?_
       iterate 2 refine gMv ?_
       refine gFp underlying109 sizeOf4 5 ?_; refine gLo isAgg4 0 ?_; refine gFp underlying80 sizeOf3 2 ?_; refine gLo isAgg3 1 ?_
       refine gP rfl rfl rfl rfl rfl call130 (fun w _ hS => (by exact rng_c false n.e 0 7 w)) ?_
       refine gPf ?_
       iterate 2 refine gMv ?_
       refine gFp underlying109 sizeOf4 4 ?_; refine gLo isAgg4 0 ?_; refine gFp underlying80 sizeOf3 3 ?_; refine gLo isAgg3 1 ?_
       refine gP rfl rfl rfl rfl rfl call130 (fun w _ hS => (by exact rng_c false n.g 1 15 w)) ?_
       refine gPf ?_; refine gE (GoH.condF rfl (gK (gS (gR ?_)))); refine gAs ?_; refine gE ?_
       refine gT func105 fun w' hS => ?_
       exact ⟨hS.ext, by rw [show nodeE n at_ = 0 from (nodeE_f hop hox hoy).trans (fldE_0 hfa (by simp [h3, h17, hA, hG]; omega))]; rfl⟩
set_option maxRecDepth 4000 in
theorem node_not (n : NV) (at_ fr : Int) (w : World) (hop : 1 ≤ n.op ∧ n.op ≤ 21) (hX : usX n.op = true) (hY : usY n.op = false) (h3 : (n.op == 3) = false) (hA : agO n.op = false) (h17 : (n.op == 17) = false) (hG : grO n.op = false) (hU : usV n.op = .agg #[.bool true, .bool false, .bool false, .bool false, .bool false, .bool false, .int .i64 fr]) (hK : okO n.op = true) :
    Cn Tryd.prog 105 [n.v, .int .i64 at_] w (fun v _ => v = .int .i64 (nodeE n at_)) := by
  refine Cn.of func105 rfl rfl ?_
  refine gS (gR ?_)
  refine GoH.bx rfl rfl rfl rfl (fun b2 => ?_)
  refine gAs ?_; refine gE (gS (gR ?_)); refine gFp underlying80 sizeOf3 0 ?_; refine gLo isAgg3 0 ?_
  refine gP rfl rfl rfl rfl rfl call126 (fun w _ hS => (by have := uses_c n.op w; rw [hU, hK] at this; exact this)) ?_
  refine gMv ?_
  iterate 2 refine gEx ?_
  refine GoH.alc rfl rfl rfl (fun _ => zeroValue109 _) (fun b5 => ?_)
  refine GoH.stB rfl rfl rfl rfl sizeOf109 0 rfl rfl rfl rfl ?_
  refine gAs ?_; refine gE (gS (gS (gR ?_))); refine gMv ?_; refine gUn uNot ?_; refine gE ?_
  refine GoH.cond rfl (fun hc => by exfalso; simp at hc) (fun _ => ?_)
  refine gK (gS (gS (gR ?_))); refine gFp underlying109 sizeOf4 0 ?_; refine gLo isAgg4 0 ?_; refine gFp underlying80 sizeOf3 4 ?_; refine gLo isAgg3 1 ?_; refine gMv ?_
  refine gP rfl rfl rfl rfl rfl call129 (fun w _ hS => (by exact operand_c true n.x at_ w)) ?_
  refine gUn uNot ?_; refine gMv ?_
  refine gCs 23 (fun hc => ?_) fun hc => ?_
  ·
   have hb : opB (usX n.op) n.x at_ = false := by rw [hX]; simpa using hc
   iterate 7 refine gNo ?_
   refine gPt ?_; refine gE (GoH.condT rfl (gS (gR ?_))); refine gAs ?_; refine gE ?_
   refine gT func105 fun w' hS => ?_
   exact ⟨hS.ext, by rw [show nodeE n at_ = 3 from nodeE_x hop hb]; rfl⟩
  ·
   have hox : opB (usX n.op) n.x at_ = true := by rw [hX]; simpa using hc
   refine gFp underlying109 sizeOf4 1 ?_; refine gLo isAgg4 0 ?_; refine gFp underlying80 sizeOf3 5 ?_; refine gLo isAgg3 1 ?_; refine gMv ?_
   refine gP rfl rfl rfl rfl rfl call129 (fun w _ hS => (by exact operand_c false n.y at_ w)) ?_
   refine gUn uNot ?_; refine gPf ?_; refine gE ?_
   refine gC (fun hc => ?_) fun hc => ?_
   ·
    have hb : opB (usY n.op) n.y at_ = false := by rw [hY]; simpa using hc
    refine gS (gR ?_); refine gAs ?_; refine gE ?_
    refine gT func105 fun w' hS => ?_
    exact ⟨hS.ext, by rw [show nodeE n at_ = 3 from nodeE_y hop hb]; rfl⟩
   ·
    have hoy : opB (usY n.op) n.y at_ = true := by rw [hY]; simpa using hc
    refine gK (gS (gS (gR ?_))); refine gFp underlying109 sizeOf4 2 ?_; refine gLo isAgg4 0 ?_; refine gMv ?_; refine gFp underlying109 sizeOf4 3 ?_; refine gLo isAgg4 0 ?_; refine gPf ?_; refine gMv ?_; refine gFp underlying109 sizeOf4 5 ?_; refine gLo isAgg4 0 ?_; refine gPf ?_; refine gUn uNot ?_; refine gMv ?_; refine gFp underlying80 sizeOf3 1 ?_
    refine gLo isAgg3 1 ?_; refine gBi bNe ?_; refine gPt ?_; refine gMv ?_
    refine gCs 48 (fun hc => ?_) fun hc => ?_
    ·
     have hb : n.i ≠ 0 := by simpa using hc
     iterate 8 refine gNo ?_
     refine gPt ?_; refine gMv ?_
     iterate 8 refine gNo ?_
     refine gPt ?_; refine gE (GoH.condT rfl (gS (gR ?_))); refine gAs ?_; refine gE ?_
     refine gT func105 fun w' hS => ?_
     exact ⟨hS.ext, by rw [show nodeE n at_ = 3 from (nodeE_f hop hox hoy).trans (fldE_3 (by simp [iO, bne, h3, h17, hA, hG]; omega))]; rfl⟩
    ·
     have hzi : n.i = 0 := by simpa using hc
     refine gFp underlying109 sizeOf4 5 ?_; refine gLo isAgg4 0 ?_; refine gUn uNot ?_; refine gMv ?_; refine gFp underlying80 sizeOf3 2 ?_; refine gLo isAgg3 1 ?_; refine gBi bNe ?_; refine gPt ?_; refine gPf ?_; refine gMv ?_
     refine gCs 58 (fun hc => ?_) fun hc => ?_
     ·
      have hb : n.e ≠ 0 := by simpa using hc
      iterate 8 refine gNo ?_
      refine gPt ?_; refine gE (GoH.condT rfl (gS (gR ?_))); refine gAs ?_; refine gE ?_
      refine gT func105 fun w' hS => ?_
      exact ⟨hS.ext, by rw [show nodeE n at_ = 3 from (nodeE_f hop hox hoy).trans (fldE_3 (by simp [iO, bne, h3, h17, hA, hG]; omega))]; rfl⟩
     ·
      have hze : n.e = 0 := by simpa using hc
      refine gFp underlying109 sizeOf4 4 ?_; refine gLo isAgg4 0 ?_; refine gUn uNot ?_; refine gMv ?_; refine gFp underlying80 sizeOf3 3 ?_; refine gLo isAgg3 1 ?_; refine gBi bNe ?_; refine gPt ?_; refine gPf ?_; refine gE ?_
      refine gC (fun hc => ?_) fun hc => ?_
      ·
       have hb : n.g ≠ 0 := by simpa using hc
       refine gS (gR ?_); refine gAs ?_; refine gE ?_
       refine gT func105 fun w' hS => ?_
       exact ⟨hS.ext, by rw [show nodeE n at_ = 3 from (nodeE_f hop hox hoy).trans (fldE_3 (by simp [iO, bne, h3, h17, hA, hG]; omega))]; rfl⟩
      ·
       have hzg : n.g = 0 := by simpa using hc
       have hfa : (!iO n.op && n.i != 0 || n.op != 17 && n.e != 0 || !grO n.op && n.g != 0) = false := by simp [iO, bne, h3, h17, hA, hG]; omega
       refine gK (gS (gR ?_)); refine gAs ?_; refine gE (gS (gS (gR ?_))); refine gMv ?_; refine gFp underlying109 sizeOf4 2 ?_; refine gLo isAgg4 0 ?_; refine gFp underlying80 sizeOf3 1 ?_; refine gLo isAgg3 1 ?_
       refine gP rfl rfl rfl rfl rfl call130 (fun w _ hS => (by exact rng_c false n.i 0 7 w)) ?_
       iterate 2 refine gMv ?_
       refine gFp underlying109 sizeOf4 3 ?_; refine gLo isAgg4 0 ?_; refine gFp underlying80 sizeOf3 1 ?_; refine gLo isAgg3 1 ?_
       refine gP rfl rfl rfl rfl rfl call130 (fun w _ hS => (by exact rng_c false n.i 0 3 w)) ?_
       refine gPf ?_
       iterate 2 refine gMv ?_
       refine gFp underlying109 sizeOf4 5 ?_; refine gLo isAgg4 0 ?_; refine gFp underlying80 sizeOf3 1 ?_; refine gLo isAgg3 1 ?_
       refine gP rfl rfl rfl rfl rfl call130 (fun w _ hS => (by exact rng_c false n.i 0 7 w)) ?_
       refine gPf ?_
       iterate 2 refine gMv ?_
       refine gFp underlying109 sizeOf4 5 ?_; refine gLo isAgg4 0 ?_; refine gFp underlying80 sizeOf3 2 ?_; refine gLo isAgg3 1 ?_
       refine gP rfl rfl rfl rfl rfl call130 (fun w _ hS => (by exact rng_c false n.e 0 7 w)) ?_
       refine gPf ?_
       iterate 2 refine gMv ?_
       refine gFp underlying109 sizeOf4 4 ?_; refine gLo isAgg4 0 ?_; refine gFp underlying80 sizeOf3 3 ?_; refine gLo isAgg3 1 ?_
       refine gP rfl rfl rfl rfl rfl call130 (fun w _ hS => (by exact rng_c false n.g 1 15 w)) ?_
       refine gPf ?_; refine gE (GoH.condF rfl (gK (gS (gR ?_)))); refine gAs ?_; refine gE ?_
       refine gT func105 fun w' hS => ?_
       exact ⟨hS.ext, by rw [show nodeE n at_ = 0 from (nodeE_f hop hox hoy).trans (fldE_0 hfa (by simp [h3, h17, hA, hG]))]; rfl⟩
set_option maxRecDepth 4000 in
theorem node_bin (n : NV) (at_ fr : Int) (w : World) (hop : 1 ≤ n.op ∧ n.op ≤ 21) (hX : usX n.op = true) (hY : usY n.op = true) (h3 : (n.op == 3) = false) (hA : agO n.op = false) (h17 : (n.op == 17) = false) (hG : grO n.op = false) (hU : usV n.op = .agg #[.bool true, .bool true, .bool false, .bool false, .bool false, .bool false, .int .i64 fr]) (hK : okO n.op = true) :
    Cn Tryd.prog 105 [n.v, .int .i64 at_] w (fun v _ => v = .int .i64 (nodeE n at_)) := by
  refine Cn.of func105 rfl rfl ?_
  refine gS (gR ?_)
  refine GoH.bx rfl rfl rfl rfl (fun b2 => ?_)
  refine gAs ?_; refine gE (gS (gR ?_)); refine gFp underlying80 sizeOf3 0 ?_; refine gLo isAgg3 0 ?_
  refine gP rfl rfl rfl rfl rfl call126 (fun w _ hS => (by have := uses_c n.op w; rw [hU, hK] at this; exact this)) ?_
  refine gMv ?_
  iterate 2 refine gEx ?_
  refine GoH.alc rfl rfl rfl (fun _ => zeroValue109 _) (fun b5 => ?_)
  refine GoH.stB rfl rfl rfl rfl sizeOf109 0 rfl rfl rfl rfl ?_
  refine gAs ?_; refine gE (gS (gS (gR ?_))); refine gMv ?_; refine gUn uNot ?_; refine gE ?_
  refine GoH.cond rfl (fun hc => by exfalso; simp at hc) (fun _ => ?_)
  refine gK (gS (gS (gR ?_))); refine gFp underlying109 sizeOf4 0 ?_; refine gLo isAgg4 0 ?_; refine gFp underlying80 sizeOf3 4 ?_; refine gLo isAgg3 1 ?_; refine gMv ?_
  refine gP rfl rfl rfl rfl rfl call129 (fun w _ hS => (by exact operand_c true n.x at_ w)) ?_
  refine gUn uNot ?_; refine gMv ?_
  refine gCs 23 (fun hc => ?_) fun hc => ?_
  ·
   have hb : opB (usX n.op) n.x at_ = false := by rw [hX]; simpa using hc
   iterate 7 refine gNo ?_
   refine gPt ?_; refine gE (GoH.condT rfl (gS (gR ?_))); refine gAs ?_; refine gE ?_
   refine gT func105 fun w' hS => ?_
   exact ⟨hS.ext, by rw [show nodeE n at_ = 3 from nodeE_x hop hb]; rfl⟩
  ·
   have hox : opB (usX n.op) n.x at_ = true := by rw [hX]; simpa using hc
   refine gFp underlying109 sizeOf4 1 ?_; refine gLo isAgg4 0 ?_; refine gFp underlying80 sizeOf3 5 ?_; refine gLo isAgg3 1 ?_; refine gMv ?_
   refine gP rfl rfl rfl rfl rfl call129 (fun w _ hS => (by exact operand_c true n.y at_ w)) ?_
   refine gUn uNot ?_; refine gPf ?_; refine gE ?_
   refine gC (fun hc => ?_) fun hc => ?_
   ·
    have hb : opB (usY n.op) n.y at_ = false := by rw [hY]; simpa using hc
    refine gS (gR ?_); refine gAs ?_; refine gE ?_
    refine gT func105 fun w' hS => ?_
    exact ⟨hS.ext, by rw [show nodeE n at_ = 3 from nodeE_y hop hb]; rfl⟩
   ·
    have hoy : opB (usY n.op) n.y at_ = true := by rw [hY]; simpa using hc
    refine gK (gS (gS (gR ?_))); refine gFp underlying109 sizeOf4 2 ?_; refine gLo isAgg4 0 ?_; refine gMv ?_; refine gFp underlying109 sizeOf4 3 ?_; refine gLo isAgg4 0 ?_; refine gPf ?_; refine gMv ?_; refine gFp underlying109 sizeOf4 5 ?_; refine gLo isAgg4 0 ?_; refine gPf ?_; refine gUn uNot ?_; refine gMv ?_; refine gFp underlying80 sizeOf3 1 ?_
    refine gLo isAgg3 1 ?_; refine gBi bNe ?_; refine gPt ?_; refine gMv ?_
    refine gCs 48 (fun hc => ?_) fun hc => ?_
    ·
     have hb : n.i ≠ 0 := by simpa using hc
     iterate 8 refine gNo ?_
     refine gPt ?_; refine gMv ?_
     iterate 8 refine gNo ?_
     refine gPt ?_; refine gE (GoH.condT rfl (gS (gR ?_))); refine gAs ?_; refine gE ?_
     refine gT func105 fun w' hS => ?_
     exact ⟨hS.ext, by rw [show nodeE n at_ = 3 from (nodeE_f hop hox hoy).trans (fldE_3 (by simp [iO, bne, h3, h17, hA, hG]; omega))]; rfl⟩
    ·
     have hzi : n.i = 0 := by simpa using hc
     refine gFp underlying109 sizeOf4 5 ?_; refine gLo isAgg4 0 ?_; refine gUn uNot ?_; refine gMv ?_; refine gFp underlying80 sizeOf3 2 ?_; refine gLo isAgg3 1 ?_; refine gBi bNe ?_; refine gPt ?_; refine gPf ?_; refine gMv ?_
     refine gCs 58 (fun hc => ?_) fun hc => ?_
     ·
      have hb : n.e ≠ 0 := by simpa using hc
      iterate 8 refine gNo ?_
      refine gPt ?_; refine gE (GoH.condT rfl (gS (gR ?_))); refine gAs ?_; refine gE ?_
      refine gT func105 fun w' hS => ?_
      exact ⟨hS.ext, by rw [show nodeE n at_ = 3 from (nodeE_f hop hox hoy).trans (fldE_3 (by simp [iO, bne, h3, h17, hA, hG]; omega))]; rfl⟩
     ·
      have hze : n.e = 0 := by simpa using hc
      refine gFp underlying109 sizeOf4 4 ?_; refine gLo isAgg4 0 ?_; refine gUn uNot ?_; refine gMv ?_; refine gFp underlying80 sizeOf3 3 ?_; refine gLo isAgg3 1 ?_; refine gBi bNe ?_; refine gPt ?_; refine gPf ?_; refine gE ?_
      refine gC (fun hc => ?_) fun hc => ?_
      ·
       have hb : n.g ≠ 0 := by simpa using hc
       refine gS (gR ?_); refine gAs ?_; refine gE ?_
       refine gT func105 fun w' hS => ?_
       exact ⟨hS.ext, by rw [show nodeE n at_ = 3 from (nodeE_f hop hox hoy).trans (fldE_3 (by simp [iO, bne, h3, h17, hA, hG]; omega))]; rfl⟩
      ·
       have hzg : n.g = 0 := by simpa using hc
       have hfa : (!iO n.op && n.i != 0 || n.op != 17 && n.e != 0 || !grO n.op && n.g != 0) = false := by simp [iO, bne, h3, h17, hA, hG]; omega
       refine gK (gS (gR ?_)); refine gAs ?_; refine gE (gS (gS (gR ?_))); refine gMv ?_; refine gFp underlying109 sizeOf4 2 ?_; refine gLo isAgg4 0 ?_; refine gFp underlying80 sizeOf3 1 ?_; refine gLo isAgg3 1 ?_
       refine gP rfl rfl rfl rfl rfl call130 (fun w _ hS => (by exact rng_c false n.i 0 7 w)) ?_
       iterate 2 refine gMv ?_
       refine gFp underlying109 sizeOf4 3 ?_; refine gLo isAgg4 0 ?_; refine gFp underlying80 sizeOf3 1 ?_; refine gLo isAgg3 1 ?_
       refine gP rfl rfl rfl rfl rfl call130 (fun w _ hS => (by exact rng_c false n.i 0 3 w)) ?_
       refine gPf ?_
       iterate 2 refine gMv ?_
       refine gFp underlying109 sizeOf4 5 ?_; refine gLo isAgg4 0 ?_; refine gFp underlying80 sizeOf3 1 ?_; refine gLo isAgg3 1 ?_
       refine gP rfl rfl rfl rfl rfl call130 (fun w _ hS => (by exact rng_c false n.i 0 7 w)) ?_
       refine gPf ?_
       iterate 2 refine gMv ?_
       refine gFp underlying109 sizeOf4 5 ?_; refine gLo isAgg4 0 ?_; refine gFp underlying80 sizeOf3 2 ?_; refine gLo isAgg3 1 ?_
       refine gP rfl rfl rfl rfl rfl call130 (fun w _ hS => (by exact rng_c false n.e 0 7 w)) ?_
       refine gPf ?_
       iterate 2 refine gMv ?_
       refine gFp underlying109 sizeOf4 4 ?_; refine gLo isAgg4 0 ?_; refine gFp underlying80 sizeOf3 3 ?_; refine gLo isAgg3 1 ?_
       refine gP rfl rfl rfl rfl rfl call130 (fun w _ hS => (by exact rng_c false n.g 1 15 w)) ?_
       refine gPf ?_; refine gE (GoH.condF rfl (gK (gS (gR ?_)))); refine gAs ?_; refine gE ?_
       refine gT func105 fun w' hS => ?_
       exact ⟨hS.ext, by rw [show nodeE n at_ = 0 from (nodeE_f hop hox hoy).trans (fldE_0 hfa (by simp [h3, h17, hA, hG]))]; rfl⟩
set_option maxRecDepth 4000 in
theorem node_know (n : NV) (at_ fr : Int) (w : World) (hop : 1 ≤ n.op ∧ n.op ≤ 21) (hX : usX n.op = true) (hY : usY n.op = false) (h3 : (n.op == 3) = false) (hA : agO n.op = true) (h17 : (n.op == 17) = false) (hG : grO n.op = false) (hU : usV n.op = .agg #[.bool true, .bool false, .bool false, .bool true, .bool false, .bool false, .int .i64 fr]) (hK : okO n.op = true) :
    Cn Tryd.prog 105 [n.v, .int .i64 at_] w (fun v _ => v = .int .i64 (nodeE n at_)) := by
  refine Cn.of func105 rfl rfl ?_
  refine gS (gR ?_)
  refine GoH.bx rfl rfl rfl rfl (fun b2 => ?_)
  refine gAs ?_; refine gE (gS (gR ?_)); refine gFp underlying80 sizeOf3 0 ?_; refine gLo isAgg3 0 ?_
  refine gP rfl rfl rfl rfl rfl call126 (fun w _ hS => (by have := uses_c n.op w; rw [hU, hK] at this; exact this)) ?_
  refine gMv ?_
  iterate 2 refine gEx ?_
  refine GoH.alc rfl rfl rfl (fun _ => zeroValue109 _) (fun b5 => ?_)
  refine GoH.stB rfl rfl rfl rfl sizeOf109 0 rfl rfl rfl rfl ?_
  refine gAs ?_; refine gE (gS (gS (gR ?_))); refine gMv ?_; refine gUn uNot ?_; refine gE ?_
  refine GoH.cond rfl (fun hc => by exfalso; simp at hc) (fun _ => ?_)
  refine gK (gS (gS (gR ?_))); refine gFp underlying109 sizeOf4 0 ?_; refine gLo isAgg4 0 ?_; refine gFp underlying80 sizeOf3 4 ?_; refine gLo isAgg3 1 ?_; refine gMv ?_
  refine gP rfl rfl rfl rfl rfl call129 (fun w _ hS => (by exact operand_c true n.x at_ w)) ?_
  refine gUn uNot ?_; refine gMv ?_
  refine gCs 23 (fun hc => ?_) fun hc => ?_
  ·
   have hb : opB (usX n.op) n.x at_ = false := by rw [hX]; simpa using hc
   iterate 7 refine gNo ?_
   refine gPt ?_; refine gE (GoH.condT rfl (gS (gR ?_))); refine gAs ?_; refine gE ?_
   refine gT func105 fun w' hS => ?_
   exact ⟨hS.ext, by rw [show nodeE n at_ = 3 from nodeE_x hop hb]; rfl⟩
  ·
   have hox : opB (usX n.op) n.x at_ = true := by rw [hX]; simpa using hc
   refine gFp underlying109 sizeOf4 1 ?_; refine gLo isAgg4 0 ?_; refine gFp underlying80 sizeOf3 5 ?_; refine gLo isAgg3 1 ?_; refine gMv ?_
   refine gP rfl rfl rfl rfl rfl call129 (fun w _ hS => (by exact operand_c false n.y at_ w)) ?_
   refine gUn uNot ?_; refine gPf ?_; refine gE ?_
   refine gC (fun hc => ?_) fun hc => ?_
   ·
    have hb : opB (usY n.op) n.y at_ = false := by rw [hY]; simpa using hc
    refine gS (gR ?_); refine gAs ?_; refine gE ?_
    refine gT func105 fun w' hS => ?_
    exact ⟨hS.ext, by rw [show nodeE n at_ = 3 from nodeE_y hop hb]; rfl⟩
   ·
    have hoy : opB (usY n.op) n.y at_ = true := by rw [hY]; simpa using hc
    refine gK (gS (gS (gR ?_))); refine gFp underlying109 sizeOf4 2 ?_; refine gLo isAgg4 0 ?_; refine gMv ?_; refine gFp underlying109 sizeOf4 3 ?_; refine gLo isAgg4 0 ?_; refine gPf ?_; refine gMv ?_
    iterate 2 refine gNo ?_
    refine gPt ?_; refine gUn uNot ?_; refine gMv ?_
    iterate 3 refine gNo ?_
    refine gPf ?_; refine gMv ?_; refine gFp underlying109 sizeOf4 5 ?_; refine gLo isAgg4 0 ?_; refine gUn uNot ?_; refine gMv ?_; refine gFp underlying80 sizeOf3 2 ?_; refine gLo isAgg3 1 ?_; refine gBi bNe ?_; refine gPt ?_; refine gPf ?_; refine gMv ?_
    refine gCs 58 (fun hc => ?_) fun hc => ?_
    ·
     have hb : n.e ≠ 0 := by simpa using hc
     iterate 8 refine gNo ?_
     refine gPt ?_; refine gE (GoH.condT rfl (gS (gR ?_))); refine gAs ?_; refine gE ?_
     refine gT func105 fun w' hS => ?_
     exact ⟨hS.ext, by rw [show nodeE n at_ = 3 from (nodeE_f hop hox hoy).trans (fldE_3 (by simp [iO, bne, h3, h17, hA, hG]; omega))]; rfl⟩
    ·
     have hze : n.e = 0 := by simpa using hc
     refine gFp underlying109 sizeOf4 4 ?_; refine gLo isAgg4 0 ?_; refine gUn uNot ?_; refine gMv ?_; refine gFp underlying80 sizeOf3 3 ?_; refine gLo isAgg3 1 ?_; refine gBi bNe ?_; refine gPt ?_; refine gPf ?_; refine gE ?_
     refine gC (fun hc => ?_) fun hc => ?_
     ·
      have hb : n.g ≠ 0 := by simpa using hc
      refine gS (gR ?_); refine gAs ?_; refine gE ?_
      refine gT func105 fun w' hS => ?_
      exact ⟨hS.ext, by rw [show nodeE n at_ = 3 from (nodeE_f hop hox hoy).trans (fldE_3 (by simp [iO, bne, h3, h17, hA, hG]; omega))]; rfl⟩
     ·
      have hzg : n.g = 0 := by simpa using hc
      have hfa : (!iO n.op && n.i != 0 || n.op != 17 && n.e != 0 || !grO n.op && n.g != 0) = false := by simp [iO, bne, h3, h17, hA, hG]; omega
      refine gK (gS (gR ?_)); refine gAs ?_; refine gE (gS (gS (gR ?_))); refine gMv ?_; refine gFp underlying109 sizeOf4 2 ?_; refine gLo isAgg4 0 ?_; refine gFp underlying80 sizeOf3 1 ?_; refine gLo isAgg3 1 ?_
      refine gP rfl rfl rfl rfl rfl call130 (fun w _ hS => (by exact rng_c false n.i 0 7 w)) ?_
      iterate 2 refine gMv ?_
      refine gFp underlying109 sizeOf4 3 ?_; refine gLo isAgg4 0 ?_; refine gFp underlying80 sizeOf3 1 ?_; refine gLo isAgg3 1 ?_
      refine gP rfl rfl rfl rfl rfl call130 (fun w _ hS => (by exact rng_c true n.i 0 3 w)) ?_
      refine gPf ?_; refine gMv ?_
      refine gCs 82 (fun hc => ?_) fun hc => ?_
      ·
       have hb : n.i < 0 ∨ 3 < n.i := by simpa [rngB] using hc
       iterate 6 refine gNo ?_
       refine gPt ?_; refine gMv ?_
       iterate 6 refine gNo ?_
       refine gPt ?_; refine gMv ?_
       iterate 6 refine gNo ?_
       refine gPt ?_; refine gE (GoH.condT rfl (gS (gR ?_))); refine gAs ?_; refine gE ?_
       refine gT func105 fun w' hS => ?_
       exact ⟨hS.ext, by rw [show nodeE n at_ = 2 from (nodeE_f hop hox hoy).trans (fldE_2 hfa (by simp [h3, h17, hA, hG]; omega))]; rfl⟩
      ·
       have hrA : 0 ≤ n.i ∧ n.i ≤ 3 := by simpa [rngB] using hc
       refine gMv ?_; refine gFp underlying109 sizeOf4 5 ?_; refine gLo isAgg4 0 ?_; refine gFp underlying80 sizeOf3 1 ?_; refine gLo isAgg3 1 ?_
       refine gP rfl rfl rfl rfl rfl call130 (fun w _ hS => (by exact rng_c false n.i 0 7 w)) ?_
       refine gPf ?_
       iterate 2 refine gMv ?_
       refine gFp underlying109 sizeOf4 5 ?_; refine gLo isAgg4 0 ?_; refine gFp underlying80 sizeOf3 2 ?_; refine gLo isAgg3 1 ?_
       refine gP rfl rfl rfl rfl rfl call130 (fun w _ hS => (by exact rng_c false n.e 0 7 w)) ?_
       refine gPf ?_
       iterate 2 refine gMv ?_
       refine gFp underlying109 sizeOf4 4 ?_; refine gLo isAgg4 0 ?_; refine gFp underlying80 sizeOf3 3 ?_; refine gLo isAgg3 1 ?_
       refine gP rfl rfl rfl rfl rfl call130 (fun w _ hS => (by exact rng_c false n.g 1 15 w)) ?_
       refine gPf ?_; refine gE (GoH.condF rfl (gK (gS (gR ?_)))); refine gAs ?_; refine gE ?_
       refine gT func105 fun w' hS => ?_
       exact ⟨hS.ext, by rw [show nodeE n at_ = 0 from (nodeE_f hop hox hoy).trans (fldE_0 hfa (by simp [h3, h17, hA, hG]; omega))]; rfl⟩
set_option maxRecDepth 4000 in
theorem node_evy (n : NV) (at_ fr : Int) (w : World) (hop : 1 ≤ n.op ∧ n.op ≤ 21) (hX : usX n.op = true) (hY : usY n.op = false) (h3 : (n.op == 3) = false) (hA : agO n.op = false) (h17 : (n.op == 17) = false) (hG : grO n.op = true) (hU : usV n.op = .agg #[.bool true, .bool false, .bool false, .bool false, .bool true, .bool false, .int .i64 fr]) (hK : okO n.op = true) :
    Cn Tryd.prog 105 [n.v, .int .i64 at_] w (fun v _ => v = .int .i64 (nodeE n at_)) := by
  refine Cn.of func105 rfl rfl ?_
  refine gS (gR ?_)
  refine GoH.bx rfl rfl rfl rfl (fun b2 => ?_)
  refine gAs ?_; refine gE (gS (gR ?_)); refine gFp underlying80 sizeOf3 0 ?_; refine gLo isAgg3 0 ?_
  refine gP rfl rfl rfl rfl rfl call126 (fun w _ hS => (by have := uses_c n.op w; rw [hU, hK] at this; exact this)) ?_
  refine gMv ?_
  iterate 2 refine gEx ?_
  refine GoH.alc rfl rfl rfl (fun _ => zeroValue109 _) (fun b5 => ?_)
  refine GoH.stB rfl rfl rfl rfl sizeOf109 0 rfl rfl rfl rfl ?_
  refine gAs ?_; refine gE (gS (gS (gR ?_))); refine gMv ?_; refine gUn uNot ?_; refine gE ?_
  refine GoH.cond rfl (fun hc => by exfalso; simp at hc) (fun _ => ?_)
  refine gK (gS (gS (gR ?_))); refine gFp underlying109 sizeOf4 0 ?_; refine gLo isAgg4 0 ?_; refine gFp underlying80 sizeOf3 4 ?_; refine gLo isAgg3 1 ?_; refine gMv ?_
  refine gP rfl rfl rfl rfl rfl call129 (fun w _ hS => (by exact operand_c true n.x at_ w)) ?_
  refine gUn uNot ?_; refine gMv ?_
  refine gCs 23 (fun hc => ?_) fun hc => ?_
  ·
   have hb : opB (usX n.op) n.x at_ = false := by rw [hX]; simpa using hc
   iterate 7 refine gNo ?_
   refine gPt ?_; refine gE (GoH.condT rfl (gS (gR ?_))); refine gAs ?_; refine gE ?_
   refine gT func105 fun w' hS => ?_
   exact ⟨hS.ext, by rw [show nodeE n at_ = 3 from nodeE_x hop hb]; rfl⟩
  ·
   have hox : opB (usX n.op) n.x at_ = true := by rw [hX]; simpa using hc
   refine gFp underlying109 sizeOf4 1 ?_; refine gLo isAgg4 0 ?_; refine gFp underlying80 sizeOf3 5 ?_; refine gLo isAgg3 1 ?_; refine gMv ?_
   refine gP rfl rfl rfl rfl rfl call129 (fun w _ hS => (by exact operand_c false n.y at_ w)) ?_
   refine gUn uNot ?_; refine gPf ?_; refine gE ?_
   refine gC (fun hc => ?_) fun hc => ?_
   ·
    have hb : opB (usY n.op) n.y at_ = false := by rw [hY]; simpa using hc
    refine gS (gR ?_); refine gAs ?_; refine gE ?_
    refine gT func105 fun w' hS => ?_
    exact ⟨hS.ext, by rw [show nodeE n at_ = 3 from nodeE_y hop hb]; rfl⟩
   ·
    have hoy : opB (usY n.op) n.y at_ = true := by rw [hY]; simpa using hc
    refine gK (gS (gS (gR ?_))); refine gFp underlying109 sizeOf4 2 ?_; refine gLo isAgg4 0 ?_; refine gMv ?_; refine gFp underlying109 sizeOf4 3 ?_; refine gLo isAgg4 0 ?_; refine gPf ?_; refine gMv ?_; refine gFp underlying109 sizeOf4 5 ?_; refine gLo isAgg4 0 ?_; refine gPf ?_; refine gUn uNot ?_; refine gMv ?_; refine gFp underlying80 sizeOf3 1 ?_
    refine gLo isAgg3 1 ?_; refine gBi bNe ?_; refine gPt ?_; refine gMv ?_
    refine gCs 48 (fun hc => ?_) fun hc => ?_
    ·
     have hb : n.i ≠ 0 := by simpa using hc
     iterate 8 refine gNo ?_
     refine gPt ?_; refine gMv ?_
     iterate 8 refine gNo ?_
     refine gPt ?_; refine gE (GoH.condT rfl (gS (gR ?_))); refine gAs ?_; refine gE ?_
     refine gT func105 fun w' hS => ?_
     exact ⟨hS.ext, by rw [show nodeE n at_ = 3 from (nodeE_f hop hox hoy).trans (fldE_3 (by simp [iO, bne, h3, h17, hA, hG]; omega))]; rfl⟩
    ·
     have hzi : n.i = 0 := by simpa using hc
     refine gFp underlying109 sizeOf4 5 ?_; refine gLo isAgg4 0 ?_; refine gUn uNot ?_; refine gMv ?_; refine gFp underlying80 sizeOf3 2 ?_; refine gLo isAgg3 1 ?_; refine gBi bNe ?_; refine gPt ?_; refine gPf ?_; refine gMv ?_
     refine gCs 58 (fun hc => ?_) fun hc => ?_
     ·
      have hb : n.e ≠ 0 := by simpa using hc
      iterate 8 refine gNo ?_
      refine gPt ?_; refine gE (GoH.condT rfl (gS (gR ?_))); refine gAs ?_; refine gE ?_
      refine gT func105 fun w' hS => ?_
      exact ⟨hS.ext, by rw [show nodeE n at_ = 3 from (nodeE_f hop hox hoy).trans (fldE_3 (by simp [iO, bne, h3, h17, hA, hG]; omega))]; rfl⟩
     ·
      have hze : n.e = 0 := by simpa using hc
      refine gFp underlying109 sizeOf4 4 ?_; refine gLo isAgg4 0 ?_
      have hfa : (!iO n.op && n.i != 0 || n.op != 17 && n.e != 0 || !grO n.op && n.g != 0) = false := by simp [iO, bne, h3, h17, hA, hG]; omega
      refine gUn uNot ?_; refine gMv ?_
      iterate 3 refine gNo ?_
      iterate 2 refine gPf ?_
      refine gE (GoH.condF rfl (gK (gS (gR ?_)))); refine gAs ?_; refine gE (gS (gS (gR ?_))); refine gMv ?_; refine gFp underlying109 sizeOf4 2 ?_; refine gLo isAgg4 0 ?_; refine gFp underlying80 sizeOf3 1 ?_; refine gLo isAgg3 1 ?_
      refine gP rfl rfl rfl rfl rfl call130 (fun w _ hS => (by exact rng_c false n.i 0 7 w)) ?_
      iterate 2 refine gMv ?_
      refine gFp underlying109 sizeOf4 3 ?_; refine gLo isAgg4 0 ?_; refine gFp underlying80 sizeOf3 1 ?_; refine gLo isAgg3 1 ?_
      refine gP rfl rfl rfl rfl rfl call130 (fun w _ hS => (by exact rng_c false n.i 0 3 w)) ?_
      refine gPf ?_
      iterate 2 refine gMv ?_
      refine gFp underlying109 sizeOf4 5 ?_; refine gLo isAgg4 0 ?_; refine gFp underlying80 sizeOf3 1 ?_; refine gLo isAgg3 1 ?_
      refine gP rfl rfl rfl rfl rfl call130 (fun w _ hS => (by exact rng_c false n.i 0 7 w)) ?_
      refine gPf ?_
      iterate 2 refine gMv ?_
      refine gFp underlying109 sizeOf4 5 ?_; refine gLo isAgg4 0 ?_; refine gFp underlying80 sizeOf3 2 ?_; refine gLo isAgg3 1 ?_
      refine gP rfl rfl rfl rfl rfl call130 (fun w _ hS => (by exact rng_c false n.e 0 7 w)) ?_
      refine gPf ?_
      iterate 2 refine gMv ?_
      refine gFp underlying109 sizeOf4 4 ?_; refine gLo isAgg4 0 ?_; refine gFp underlying80 sizeOf3 3 ?_; refine gLo isAgg3 1 ?_
      refine gP rfl rfl rfl rfl rfl call130 (fun w _ hS => (by exact rng_c true n.g 1 15 w)) ?_
      refine gPf ?_; refine gE ?_
      refine gC (fun hc => ?_) fun hc => ?_
      ·
       have hb : n.g < 1 ∨ 15 < n.g := by simpa [rngB] using hc
       refine gS (gR ?_); refine gAs ?_; refine gE ?_
       refine gT func105 fun w' hS => ?_
       exact ⟨hS.ext, by rw [show nodeE n at_ = 2 from (nodeE_f hop hox hoy).trans (fldE_2 hfa (by simp [h3, h17, hA, hG]; omega))]; rfl⟩
      ·
       have hrG : 1 ≤ n.g ∧ n.g ≤ 15 := by simpa [rngB] using hc
       refine gK (gS (gR ?_)); refine gAs ?_; refine gE ?_
       refine gT func105 fun w' hS => ?_
       exact ⟨hS.ext, by rw [show nodeE n at_ = 0 from (nodeE_f hop hox hoy).trans (fldE_0 hfa (by simp [h3, h17, hA, hG]; omega))]; rfl⟩
set_option maxRecDepth 4000 in
theorem node_com (n : NV) (at_ fr : Int) (w : World) (hop : 1 ≤ n.op ∧ n.op ≤ 21) (hX : usX n.op = true) (hY : usY n.op = true) (h3 : (n.op == 3) = false) (hA : agO n.op = false) (h17 : (n.op == 17) = false) (hG : grO n.op = true) (hU : usV n.op = .agg #[.bool true, .bool true, .bool false, .bool false, .bool true, .bool false, .int .i64 fr]) (hK : okO n.op = true) :
    Cn Tryd.prog 105 [n.v, .int .i64 at_] w (fun v _ => v = .int .i64 (nodeE n at_)) := by
  refine Cn.of func105 rfl rfl ?_
  refine gS (gR ?_)
  refine GoH.bx rfl rfl rfl rfl (fun b2 => ?_)
  refine gAs ?_; refine gE (gS (gR ?_)); refine gFp underlying80 sizeOf3 0 ?_; refine gLo isAgg3 0 ?_
  refine gP rfl rfl rfl rfl rfl call126 (fun w _ hS => (by have := uses_c n.op w; rw [hU, hK] at this; exact this)) ?_
  refine gMv ?_
  iterate 2 refine gEx ?_
  refine GoH.alc rfl rfl rfl (fun _ => zeroValue109 _) (fun b5 => ?_)
  refine GoH.stB rfl rfl rfl rfl sizeOf109 0 rfl rfl rfl rfl ?_
  refine gAs ?_; refine gE (gS (gS (gR ?_))); refine gMv ?_; refine gUn uNot ?_; refine gE ?_
  refine GoH.cond rfl (fun hc => by exfalso; simp at hc) (fun _ => ?_)
  refine gK (gS (gS (gR ?_))); refine gFp underlying109 sizeOf4 0 ?_; refine gLo isAgg4 0 ?_; refine gFp underlying80 sizeOf3 4 ?_; refine gLo isAgg3 1 ?_; refine gMv ?_
  refine gP rfl rfl rfl rfl rfl call129 (fun w _ hS => (by exact operand_c true n.x at_ w)) ?_
  refine gUn uNot ?_; refine gMv ?_
  refine gCs 23 (fun hc => ?_) fun hc => ?_
  ·
   have hb : opB (usX n.op) n.x at_ = false := by rw [hX]; simpa using hc
   iterate 7 refine gNo ?_
   refine gPt ?_; refine gE (GoH.condT rfl (gS (gR ?_))); refine gAs ?_; refine gE ?_
   refine gT func105 fun w' hS => ?_
   exact ⟨hS.ext, by rw [show nodeE n at_ = 3 from nodeE_x hop hb]; rfl⟩
  ·
   have hox : opB (usX n.op) n.x at_ = true := by rw [hX]; simpa using hc
   refine gFp underlying109 sizeOf4 1 ?_; refine gLo isAgg4 0 ?_; refine gFp underlying80 sizeOf3 5 ?_; refine gLo isAgg3 1 ?_; refine gMv ?_
   refine gP rfl rfl rfl rfl rfl call129 (fun w _ hS => (by exact operand_c true n.y at_ w)) ?_
   refine gUn uNot ?_; refine gPf ?_; refine gE ?_
   refine gC (fun hc => ?_) fun hc => ?_
   ·
    have hb : opB (usY n.op) n.y at_ = false := by rw [hY]; simpa using hc
    refine gS (gR ?_); refine gAs ?_; refine gE ?_
    refine gT func105 fun w' hS => ?_
    exact ⟨hS.ext, by rw [show nodeE n at_ = 3 from nodeE_y hop hb]; rfl⟩
   ·
    have hoy : opB (usY n.op) n.y at_ = true := by rw [hY]; simpa using hc
    refine gK (gS (gS (gR ?_))); refine gFp underlying109 sizeOf4 2 ?_; refine gLo isAgg4 0 ?_; refine gMv ?_; refine gFp underlying109 sizeOf4 3 ?_; refine gLo isAgg4 0 ?_; refine gPf ?_; refine gMv ?_; refine gFp underlying109 sizeOf4 5 ?_; refine gLo isAgg4 0 ?_; refine gPf ?_; refine gUn uNot ?_; refine gMv ?_; refine gFp underlying80 sizeOf3 1 ?_
    refine gLo isAgg3 1 ?_; refine gBi bNe ?_; refine gPt ?_; refine gMv ?_
    refine gCs 48 (fun hc => ?_) fun hc => ?_
    ·
     have hb : n.i ≠ 0 := by simpa using hc
     iterate 8 refine gNo ?_
     refine gPt ?_; refine gMv ?_
     iterate 8 refine gNo ?_
     refine gPt ?_; refine gE (GoH.condT rfl (gS (gR ?_))); refine gAs ?_; refine gE ?_
     refine gT func105 fun w' hS => ?_
     exact ⟨hS.ext, by rw [show nodeE n at_ = 3 from (nodeE_f hop hox hoy).trans (fldE_3 (by simp [iO, bne, h3, h17, hA, hG]; omega))]; rfl⟩
    ·
     have hzi : n.i = 0 := by simpa using hc
     refine gFp underlying109 sizeOf4 5 ?_; refine gLo isAgg4 0 ?_; refine gUn uNot ?_; refine gMv ?_; refine gFp underlying80 sizeOf3 2 ?_; refine gLo isAgg3 1 ?_; refine gBi bNe ?_; refine gPt ?_; refine gPf ?_; refine gMv ?_
     refine gCs 58 (fun hc => ?_) fun hc => ?_
     ·
      have hb : n.e ≠ 0 := by simpa using hc
      iterate 8 refine gNo ?_
      refine gPt ?_; refine gE (GoH.condT rfl (gS (gR ?_))); refine gAs ?_; refine gE ?_
      refine gT func105 fun w' hS => ?_
      exact ⟨hS.ext, by rw [show nodeE n at_ = 3 from (nodeE_f hop hox hoy).trans (fldE_3 (by simp [iO, bne, h3, h17, hA, hG]; omega))]; rfl⟩
     ·
      have hze : n.e = 0 := by simpa using hc
      refine gFp underlying109 sizeOf4 4 ?_; refine gLo isAgg4 0 ?_
      have hfa : (!iO n.op && n.i != 0 || n.op != 17 && n.e != 0 || !grO n.op && n.g != 0) = false := by simp [iO, bne, h3, h17, hA, hG]; omega
      refine gUn uNot ?_; refine gMv ?_
      iterate 3 refine gNo ?_
      iterate 2 refine gPf ?_
      refine gE (GoH.condF rfl (gK (gS (gR ?_)))); refine gAs ?_; refine gE (gS (gS (gR ?_))); refine gMv ?_; refine gFp underlying109 sizeOf4 2 ?_; refine gLo isAgg4 0 ?_; refine gFp underlying80 sizeOf3 1 ?_; refine gLo isAgg3 1 ?_
      refine gP rfl rfl rfl rfl rfl call130 (fun w _ hS => (by exact rng_c false n.i 0 7 w)) ?_
      iterate 2 refine gMv ?_
      refine gFp underlying109 sizeOf4 3 ?_; refine gLo isAgg4 0 ?_; refine gFp underlying80 sizeOf3 1 ?_; refine gLo isAgg3 1 ?_
      refine gP rfl rfl rfl rfl rfl call130 (fun w _ hS => (by exact rng_c false n.i 0 3 w)) ?_
      refine gPf ?_
      iterate 2 refine gMv ?_
      refine gFp underlying109 sizeOf4 5 ?_; refine gLo isAgg4 0 ?_; refine gFp underlying80 sizeOf3 1 ?_; refine gLo isAgg3 1 ?_
      refine gP rfl rfl rfl rfl rfl call130 (fun w _ hS => (by exact rng_c false n.i 0 7 w)) ?_
      refine gPf ?_
      iterate 2 refine gMv ?_
      refine gFp underlying109 sizeOf4 5 ?_; refine gLo isAgg4 0 ?_; refine gFp underlying80 sizeOf3 2 ?_; refine gLo isAgg3 1 ?_
      refine gP rfl rfl rfl rfl rfl call130 (fun w _ hS => (by exact rng_c false n.e 0 7 w)) ?_
      refine gPf ?_
      iterate 2 refine gMv ?_
      refine gFp underlying109 sizeOf4 4 ?_; refine gLo isAgg4 0 ?_; refine gFp underlying80 sizeOf3 3 ?_; refine gLo isAgg3 1 ?_
      refine gP rfl rfl rfl rfl rfl call130 (fun w _ hS => (by exact rng_c true n.g 1 15 w)) ?_
      refine gPf ?_; refine gE ?_
      refine gC (fun hc => ?_) fun hc => ?_
      ·
       have hb : n.g < 1 ∨ 15 < n.g := by simpa [rngB] using hc
       refine gS (gR ?_); refine gAs ?_; refine gE ?_
       refine gT func105 fun w' hS => ?_
       exact ⟨hS.ext, by rw [show nodeE n at_ = 2 from (nodeE_f hop hox hoy).trans (fldE_2 hfa (by simp [h3, h17, hA, hG]; omega))]; rfl⟩
      ·
       have hrG : 1 ≤ n.g ∧ n.g ≤ 15 := by simpa [rngB] using hc
       refine gK (gS (gR ?_)); refine gAs ?_; refine gE ?_
       refine gT func105 fun w' hS => ?_
       exact ⟨hS.ext, by rw [show nodeE n at_ = 0 from (nodeE_f hop hox hoy).trans (fldE_0 hfa (by simp [h3, h17, hA, hG]; omega))]; rfl⟩
set_option maxRecDepth 4000 in
theorem node_bel (n : NV) (at_ fr : Int) (w : World) (hop : 1 ≤ n.op ∧ n.op ≤ 21) (hX : usX n.op = true) (hY : usY n.op = true) (h3 : (n.op == 3) = false) (hA : agO n.op = true) (h17 : (n.op == 17) = false) (hG : grO n.op = false) (hU : usV n.op = .agg #[.bool true, .bool true, .bool false, .bool true, .bool false, .bool false, .int .i64 fr]) (hK : okO n.op = true) :
    Cn Tryd.prog 105 [n.v, .int .i64 at_] w (fun v _ => v = .int .i64 (nodeE n at_)) := by
  refine Cn.of func105 rfl rfl ?_
  refine gS (gR ?_)
  refine GoH.bx rfl rfl rfl rfl (fun b2 => ?_)
  refine gAs ?_; refine gE (gS (gR ?_)); refine gFp underlying80 sizeOf3 0 ?_; refine gLo isAgg3 0 ?_
  refine gP rfl rfl rfl rfl rfl call126 (fun w _ hS => (by have := uses_c n.op w; rw [hU, hK] at this; exact this)) ?_
  refine gMv ?_
  iterate 2 refine gEx ?_
  refine GoH.alc rfl rfl rfl (fun _ => zeroValue109 _) (fun b5 => ?_)
  refine GoH.stB rfl rfl rfl rfl sizeOf109 0 rfl rfl rfl rfl ?_
  refine gAs ?_; refine gE (gS (gS (gR ?_))); refine gMv ?_; refine gUn uNot ?_; refine gE ?_
  refine GoH.cond rfl (fun hc => by exfalso; simp at hc) (fun _ => ?_)
  refine gK (gS (gS (gR ?_))); refine gFp underlying109 sizeOf4 0 ?_; refine gLo isAgg4 0 ?_; refine gFp underlying80 sizeOf3 4 ?_; refine gLo isAgg3 1 ?_; refine gMv ?_
  refine gP rfl rfl rfl rfl rfl call129 (fun w _ hS => (by exact operand_c true n.x at_ w)) ?_
  refine gUn uNot ?_; refine gMv ?_
  refine gCs 23 (fun hc => ?_) fun hc => ?_
  ·
   have hb : opB (usX n.op) n.x at_ = false := by rw [hX]; simpa using hc
   iterate 7 refine gNo ?_
   refine gPt ?_; refine gE (GoH.condT rfl (gS (gR ?_))); refine gAs ?_; refine gE ?_
   refine gT func105 fun w' hS => ?_
   exact ⟨hS.ext, by rw [show nodeE n at_ = 3 from nodeE_x hop hb]; rfl⟩
  ·
   have hox : opB (usX n.op) n.x at_ = true := by rw [hX]; simpa using hc
   refine gFp underlying109 sizeOf4 1 ?_; refine gLo isAgg4 0 ?_; refine gFp underlying80 sizeOf3 5 ?_; refine gLo isAgg3 1 ?_; refine gMv ?_
   refine gP rfl rfl rfl rfl rfl call129 (fun w _ hS => (by exact operand_c true n.y at_ w)) ?_
   refine gUn uNot ?_; refine gPf ?_; refine gE ?_
   refine gC (fun hc => ?_) fun hc => ?_
   ·
    have hb : opB (usY n.op) n.y at_ = false := by rw [hY]; simpa using hc
    refine gS (gR ?_); refine gAs ?_; refine gE ?_
    refine gT func105 fun w' hS => ?_
    exact ⟨hS.ext, by rw [show nodeE n at_ = 3 from nodeE_y hop hb]; rfl⟩
   ·
    have hoy : opB (usY n.op) n.y at_ = true := by rw [hY]; simpa using hc
    refine gK (gS (gS (gR ?_))); refine gFp underlying109 sizeOf4 2 ?_; refine gLo isAgg4 0 ?_; refine gMv ?_; refine gFp underlying109 sizeOf4 3 ?_; refine gLo isAgg4 0 ?_; refine gPf ?_; refine gMv ?_
    iterate 2 refine gNo ?_
    refine gPt ?_; refine gUn uNot ?_; refine gMv ?_
    iterate 3 refine gNo ?_
    refine gPf ?_; refine gMv ?_; refine gFp underlying109 sizeOf4 5 ?_; refine gLo isAgg4 0 ?_; refine gUn uNot ?_; refine gMv ?_; refine gFp underlying80 sizeOf3 2 ?_; refine gLo isAgg3 1 ?_; refine gBi bNe ?_; refine gPt ?_; refine gPf ?_; refine gMv ?_
    refine gCs 58 (fun hc => ?_) fun hc => ?_
    ·
     have hb : n.e ≠ 0 := by simpa using hc
     iterate 8 refine gNo ?_
     refine gPt ?_; refine gE (GoH.condT rfl (gS (gR ?_))); refine gAs ?_; refine gE ?_
     refine gT func105 fun w' hS => ?_
     exact ⟨hS.ext, by rw [show nodeE n at_ = 3 from (nodeE_f hop hox hoy).trans (fldE_3 (by simp [iO, bne, h3, h17, hA, hG]; omega))]; rfl⟩
    ·
     have hze : n.e = 0 := by simpa using hc
     refine gFp underlying109 sizeOf4 4 ?_; refine gLo isAgg4 0 ?_; refine gUn uNot ?_; refine gMv ?_; refine gFp underlying80 sizeOf3 3 ?_; refine gLo isAgg3 1 ?_; refine gBi bNe ?_; refine gPt ?_; refine gPf ?_; refine gE ?_
     refine gC (fun hc => ?_) fun hc => ?_
     ·
      have hb : n.g ≠ 0 := by simpa using hc
      refine gS (gR ?_); refine gAs ?_; refine gE ?_
      refine gT func105 fun w' hS => ?_
      exact ⟨hS.ext, by rw [show nodeE n at_ = 3 from (nodeE_f hop hox hoy).trans (fldE_3 (by simp [iO, bne, h3, h17, hA, hG]; omega))]; rfl⟩
     ·
      have hzg : n.g = 0 := by simpa using hc
      have hfa : (!iO n.op && n.i != 0 || n.op != 17 && n.e != 0 || !grO n.op && n.g != 0) = false := by simp [iO, bne, h3, h17, hA, hG]; omega
      refine gK (gS (gR ?_)); refine gAs ?_; refine gE (gS (gS (gR ?_))); refine gMv ?_; refine gFp underlying109 sizeOf4 2 ?_; refine gLo isAgg4 0 ?_; refine gFp underlying80 sizeOf3 1 ?_; refine gLo isAgg3 1 ?_
      refine gP rfl rfl rfl rfl rfl call130 (fun w _ hS => (by exact rng_c false n.i 0 7 w)) ?_
      iterate 2 refine gMv ?_
      refine gFp underlying109 sizeOf4 3 ?_; refine gLo isAgg4 0 ?_; refine gFp underlying80 sizeOf3 1 ?_; refine gLo isAgg3 1 ?_
      refine gP rfl rfl rfl rfl rfl call130 (fun w _ hS => (by exact rng_c true n.i 0 3 w)) ?_
      refine gPf ?_; refine gMv ?_
      refine gCs 82 (fun hc => ?_) fun hc => ?_
      ·
       have hb : n.i < 0 ∨ 3 < n.i := by simpa [rngB] using hc
       iterate 6 refine gNo ?_
       refine gPt ?_; refine gMv ?_
       iterate 6 refine gNo ?_
       refine gPt ?_; refine gMv ?_
       iterate 6 refine gNo ?_
       refine gPt ?_; refine gE (GoH.condT rfl (gS (gR ?_))); refine gAs ?_; refine gE ?_
       refine gT func105 fun w' hS => ?_
       exact ⟨hS.ext, by rw [show nodeE n at_ = 2 from (nodeE_f hop hox hoy).trans (fldE_2 hfa (by simp [h3, h17, hA, hG]; omega))]; rfl⟩
      ·
       have hrA : 0 ≤ n.i ∧ n.i ≤ 3 := by simpa [rngB] using hc
       refine gMv ?_; refine gFp underlying109 sizeOf4 5 ?_; refine gLo isAgg4 0 ?_; refine gFp underlying80 sizeOf3 1 ?_; refine gLo isAgg3 1 ?_
       refine gP rfl rfl rfl rfl rfl call130 (fun w _ hS => (by exact rng_c false n.i 0 7 w)) ?_
       refine gPf ?_
       iterate 2 refine gMv ?_
       refine gFp underlying109 sizeOf4 5 ?_; refine gLo isAgg4 0 ?_; refine gFp underlying80 sizeOf3 2 ?_; refine gLo isAgg3 1 ?_
       refine gP rfl rfl rfl rfl rfl call130 (fun w _ hS => (by exact rng_c false n.e 0 7 w)) ?_
       refine gPf ?_
       iterate 2 refine gMv ?_
       refine gFp underlying109 sizeOf4 4 ?_; refine gLo isAgg4 0 ?_; refine gFp underlying80 sizeOf3 3 ?_; refine gLo isAgg3 1 ?_
       refine gP rfl rfl rfl rfl rfl call130 (fun w _ hS => (by exact rng_c false n.g 1 15 w)) ?_
       refine gPf ?_; refine gE (GoH.condF rfl (gK (gS (gR ?_)))); refine gAs ?_; refine gE ?_
       refine gT func105 fun w' hS => ?_
       exact ⟨hS.ext, by rw [show nodeE n at_ = 0 from (nodeE_f hop hox hoy).trans (fldE_0 hfa (by simp [h3, h17, hA, hG]; omega))]; rfl⟩
set_option maxRecDepth 4000 in
theorem node_act (n : NV) (at_ fr : Int) (w : World) (hop : 1 ≤ n.op ∧ n.op ≤ 21) (hX : usX n.op = true) (hY : usY n.op = false) (h3 : (n.op == 3) = false) (hA : agO n.op = false) (h17 : (n.op == 17) = true) (hG : grO n.op = false) (hU : usV n.op = .agg #[.bool true, .bool false, .bool false, .bool false, .bool false, .bool true, .int .i64 fr]) (hK : okO n.op = true) :
    Cn Tryd.prog 105 [n.v, .int .i64 at_] w (fun v _ => v = .int .i64 (nodeE n at_)) := by
  refine Cn.of func105 rfl rfl ?_
  refine gS (gR ?_)
  refine GoH.bx rfl rfl rfl rfl (fun b2 => ?_)
  refine gAs ?_; refine gE (gS (gR ?_)); refine gFp underlying80 sizeOf3 0 ?_; refine gLo isAgg3 0 ?_
  refine gP rfl rfl rfl rfl rfl call126 (fun w _ hS => (by have := uses_c n.op w; rw [hU, hK] at this; exact this)) ?_
  refine gMv ?_
  iterate 2 refine gEx ?_
  refine GoH.alc rfl rfl rfl (fun _ => zeroValue109 _) (fun b5 => ?_)
  refine GoH.stB rfl rfl rfl rfl sizeOf109 0 rfl rfl rfl rfl ?_
  refine gAs ?_; refine gE (gS (gS (gR ?_))); refine gMv ?_; refine gUn uNot ?_; refine gE ?_
  refine GoH.cond rfl (fun hc => by exfalso; simp at hc) (fun _ => ?_)
  refine gK (gS (gS (gR ?_))); refine gFp underlying109 sizeOf4 0 ?_; refine gLo isAgg4 0 ?_; refine gFp underlying80 sizeOf3 4 ?_; refine gLo isAgg3 1 ?_; refine gMv ?_
  refine gP rfl rfl rfl rfl rfl call129 (fun w _ hS => (by exact operand_c true n.x at_ w)) ?_
  refine gUn uNot ?_; refine gMv ?_
  refine gCs 23 (fun hc => ?_) fun hc => ?_
  ·
   have hb : opB (usX n.op) n.x at_ = false := by rw [hX]; simpa using hc
   iterate 7 refine gNo ?_
   refine gPt ?_; refine gE (GoH.condT rfl (gS (gR ?_))); refine gAs ?_; refine gE ?_
   refine gT func105 fun w' hS => ?_
   exact ⟨hS.ext, by rw [show nodeE n at_ = 3 from nodeE_x hop hb]; rfl⟩
  ·
   have hox : opB (usX n.op) n.x at_ = true := by rw [hX]; simpa using hc
   refine gFp underlying109 sizeOf4 1 ?_; refine gLo isAgg4 0 ?_; refine gFp underlying80 sizeOf3 5 ?_; refine gLo isAgg3 1 ?_; refine gMv ?_
   refine gP rfl rfl rfl rfl rfl call129 (fun w _ hS => (by exact operand_c false n.y at_ w)) ?_
   refine gUn uNot ?_; refine gPf ?_; refine gE ?_
   refine gC (fun hc => ?_) fun hc => ?_
   ·
    have hb : opB (usY n.op) n.y at_ = false := by rw [hY]; simpa using hc
    refine gS (gR ?_); refine gAs ?_; refine gE ?_
    refine gT func105 fun w' hS => ?_
    exact ⟨hS.ext, by rw [show nodeE n at_ = 3 from nodeE_y hop hb]; rfl⟩
   ·
    have hoy : opB (usY n.op) n.y at_ = true := by rw [hY]; simpa using hc
    refine gK (gS (gS (gR ?_))); refine gFp underlying109 sizeOf4 2 ?_; refine gLo isAgg4 0 ?_; refine gMv ?_; refine gFp underlying109 sizeOf4 3 ?_; refine gLo isAgg4 0 ?_; refine gPf ?_; refine gMv ?_; refine gFp underlying109 sizeOf4 5 ?_; refine gLo isAgg4 0 ?_; refine gPf ?_; refine gUn uNot ?_; refine gMv ?_
    iterate 3 refine gNo ?_
    refine gPf ?_; refine gMv ?_; refine gFp underlying109 sizeOf4 5 ?_; refine gLo isAgg4 0 ?_; refine gUn uNot ?_; refine gMv ?_
    iterate 3 refine gNo ?_
    iterate 2 refine gPf ?_
    refine gMv ?_; refine gFp underlying109 sizeOf4 4 ?_; refine gLo isAgg4 0 ?_; refine gUn uNot ?_; refine gMv ?_; refine gFp underlying80 sizeOf3 3 ?_; refine gLo isAgg3 1 ?_; refine gBi bNe ?_; refine gPt ?_; refine gPf ?_; refine gE ?_
    refine gC (fun hc => ?_) fun hc => ?_
    ·
     have hb : n.g ≠ 0 := by simpa using hc
     refine gS (gR ?_); refine gAs ?_; refine gE ?_
     refine gT func105 fun w' hS => ?_
     exact ⟨hS.ext, by rw [show nodeE n at_ = 3 from (nodeE_f hop hox hoy).trans (fldE_3 (by simp [iO, bne, h3, h17, hA, hG]; omega))]; rfl⟩
    ·
     have hzg : n.g = 0 := by simpa using hc
     have hfa : (!iO n.op && n.i != 0 || n.op != 17 && n.e != 0 || !grO n.op && n.g != 0) = false := by simp [iO, bne, h3, h17, hA, hG]; omega
     refine gK (gS (gR ?_)); refine gAs ?_; refine gE (gS (gS (gR ?_))); refine gMv ?_; refine gFp underlying109 sizeOf4 2 ?_; refine gLo isAgg4 0 ?_; refine gFp underlying80 sizeOf3 1 ?_; refine gLo isAgg3 1 ?_
     refine gP rfl rfl rfl rfl rfl call130 (fun w _ hS => (by exact rng_c false n.i 0 7 w)) ?_
     iterate 2 refine gMv ?_
     refine gFp underlying109 sizeOf4 3 ?_; refine gLo isAgg4 0 ?_; refine gFp underlying80 sizeOf3 1 ?_; refine gLo isAgg3 1 ?_
     refine gP rfl rfl rfl rfl rfl call130 (fun w _ hS => (by exact rng_c false n.i 0 3 w)) ?_
     refine gPf ?_
     iterate 2 refine gMv ?_
     refine gFp underlying109 sizeOf4 5 ?_; refine gLo isAgg4 0 ?_; refine gFp underlying80 sizeOf3 1 ?_; refine gLo isAgg3 1 ?_
     refine gP rfl rfl rfl rfl rfl call130 (fun w _ hS => (by exact rng_c true n.i 0 7 w)) ?_
     refine gPf ?_; refine gMv ?_
     refine gCs 90 (fun hc => ?_) fun hc => ?_
     ·
      have hb : n.i < 0 ∨ 7 < n.i := by simpa [rngB] using hc
      iterate 6 refine gNo ?_
      refine gPt ?_; refine gMv ?_
      iterate 6 refine gNo ?_
      refine gPt ?_; refine gE (GoH.condT rfl (gS (gR ?_))); refine gAs ?_; refine gE ?_
      refine gT func105 fun w' hS => ?_
      exact ⟨hS.ext, by rw [show nodeE n at_ = 2 from (nodeE_f hop hox hoy).trans (fldE_2 hfa (by simp [h3, h17, hA, hG]; omega))]; rfl⟩
     ·
      have hr17 : 0 ≤ n.i ∧ n.i ≤ 7 := by simpa [rngB] using hc
      refine gMv ?_; refine gFp underlying109 sizeOf4 5 ?_; refine gLo isAgg4 0 ?_; refine gFp underlying80 sizeOf3 2 ?_; refine gLo isAgg3 1 ?_
      refine gP rfl rfl rfl rfl rfl call130 (fun w _ hS => (by exact rng_c true n.e 0 7 w)) ?_
      refine gPf ?_; refine gMv ?_
      refine gCs 98 (fun hc => ?_) fun hc => ?_
      ·
       have hb : n.e < 0 ∨ 7 < n.e := by simpa [rngB] using hc
       iterate 6 refine gNo ?_
       refine gPt ?_; refine gE (GoH.condT rfl (gS (gR ?_))); refine gAs ?_; refine gE ?_
       refine gT func105 fun w' hS => ?_
       exact ⟨hS.ext, by rw [show nodeE n at_ = 2 from (nodeE_f hop hox hoy).trans (fldE_2 hfa (by simp [h3, h17, hA, hG]; omega))]; rfl⟩
      ·
       have hrE : 0 ≤ n.e ∧ n.e ≤ 7 := by simpa [rngB] using hc
       refine gMv ?_; refine gFp underlying109 sizeOf4 4 ?_; refine gLo isAgg4 0 ?_; refine gFp underlying80 sizeOf3 3 ?_; refine gLo isAgg3 1 ?_
       refine gP rfl rfl rfl rfl rfl call130 (fun w _ hS => (by exact rng_c false n.g 1 15 w)) ?_
       refine gPf ?_; refine gE (GoH.condF rfl (gK (gS (gR ?_)))); refine gAs ?_; refine gE ?_
       refine gT func105 fun w' hS => ?_
       exact ⟨hS.ext, by rw [show nodeE n at_ = 0 from (nodeE_f hop hox hoy).trans (fldE_0 hfa (by simp [h3, h17, hA, hG]; omega))]; rfl⟩
theorem node_c (n : NV) (at_ : Int) (w : World) : Cn Tryd.prog 105 [n.v, .int .i64 at_] w (fun v _ => v = .int .i64 (nodeE n at_)) := by
 by_cases hop : 1 ≤ n.op ∧ n.op ≤ 21
 ·obtain ⟨op, i, e, g, x, y⟩ := n
  dsimp only at hop
  have hcs : op = 1 ∨ op = 2 ∨ op = 3 ∨ op = 4 ∨ op = 5 ∨ op = 6 ∨ op = 7 ∨ op = 8 ∨ op = 9 ∨ op = 10 ∨ op = 11 ∨ op = 12 ∨ op = 13 ∨ op = 14 ∨ op = 15 ∨ op = 16 ∨ op = 17 ∨ op = 18 ∨ op = 19 ∨ op = 20 ∨ op = 21 := by omega
  rcases hcs with rfl | rfl | rfl | rfl | rfl | rfl | rfl | rfl | rfl | rfl | rfl | rfl | rfl | rfl | rfl | rfl | rfl | rfl | rfl | rfl | rfl
  ·exact node_leaf ⟨1, i, e, g, x, y⟩ at_ _ w hop rfl rfl rfl rfl rfl rfl rfl rfl
  ·exact node_leaf ⟨2, i, e, g, x, y⟩ at_ _ w hop rfl rfl rfl rfl rfl rfl rfl rfl
  ·exact node_fact ⟨3, i, e, g, x, y⟩ at_ _ w hop rfl rfl rfl rfl rfl rfl rfl rfl
  ·exact node_not ⟨4, i, e, g, x, y⟩ at_ _ w hop rfl rfl rfl rfl rfl rfl rfl rfl
  ·exact node_bin ⟨5, i, e, g, x, y⟩ at_ _ w hop rfl rfl rfl rfl rfl rfl rfl rfl
  ·exact node_bin ⟨6, i, e, g, x, y⟩ at_ _ w hop rfl rfl rfl rfl rfl rfl rfl rfl
  ·exact node_bin ⟨7, i, e, g, x, y⟩ at_ _ w hop rfl rfl rfl rfl rfl rfl rfl rfl
  ·exact node_bin ⟨8, i, e, g, x, y⟩ at_ _ w hop rfl rfl rfl rfl rfl rfl rfl rfl
  ·exact node_know ⟨9, i, e, g, x, y⟩ at_ _ w hop rfl rfl rfl rfl rfl rfl rfl rfl
  ·exact node_know ⟨10, i, e, g, x, y⟩ at_ _ w hop rfl rfl rfl rfl rfl rfl rfl rfl
  ·exact node_evy ⟨11, i, e, g, x, y⟩ at_ _ w hop rfl rfl rfl rfl rfl rfl rfl rfl
  ·exact node_evy ⟨12, i, e, g, x, y⟩ at_ _ w hop rfl rfl rfl rfl rfl rfl rfl rfl
  ·exact node_com ⟨13, i, e, g, x, y⟩ at_ _ w hop rfl rfl rfl rfl rfl rfl rfl rfl
  ·exact node_bel ⟨14, i, e, g, x, y⟩ at_ _ w hop rfl rfl rfl rfl rfl rfl rfl rfl
  ·exact node_know ⟨15, i, e, g, x, y⟩ at_ _ w hop rfl rfl rfl rfl rfl rfl rfl rfl
  ·exact node_bin ⟨16, i, e, g, x, y⟩ at_ _ w hop rfl rfl rfl rfl rfl rfl rfl rfl
  ·exact node_act ⟨17, i, e, g, x, y⟩ at_ _ w hop rfl rfl rfl rfl rfl rfl rfl rfl
  ·exact node_not ⟨18, i, e, g, x, y⟩ at_ _ w hop rfl rfl rfl rfl rfl rfl rfl rfl
  ·exact node_bin ⟨19, i, e, g, x, y⟩ at_ _ w hop rfl rfl rfl rfl rfl rfl rfl rfl
  ·exact node_not ⟨20, i, e, g, x, y⟩ at_ _ w hop rfl rfl rfl rfl rfl rfl rfl rfl
  ·exact node_bin ⟨21, i, e, g, x, y⟩ at_ _ w hop rfl rfl rfl rfl rfl rfl rfl rfl
 ·refine Cn.of func105 rfl rfl ?_
  have hK := okO_out hop
  refine gS (gR ?_)
  refine GoH.bx rfl rfl rfl rfl (fun b2 => ?_)
  refine gAs ?_; refine gE (gS (gR ?_)); refine gFp underlying80 sizeOf3 0 ?_; refine gLo isAgg3 0 ?_
  refine gP rfl rfl rfl rfl rfl call126 (fun w _ hS => (by have := uses_c n.op w; rw [hK] at this; exact this)) ?_
  refine gMv ?_
  iterate 2 refine gEx ?_
  refine GoH.alc rfl rfl rfl (fun _ => zeroValue109 _) (fun b5 => ?_)
  refine GoH.stB rfl rfl rfl rfl sizeOf109 0 rfl rfl rfl rfl ?_
  refine gAs ?_; refine gE (gS (gS (gR ?_))); refine gMv ?_; refine gUn uNot ?_; refine gE ?_
  refine GoH.cond rfl (fun _ => ?_) (fun hc => by exfalso; simp at hc)
  refine gS (gR ?_); refine gAs ?_; refine gE ?_
  refine gT func105 fun w' hS => ?_
  exact ⟨hS.ext, by rw [nodeE_op hop]; rfl⟩
theorem fcheck_c (a : Option Addr) (ca : Nat) (f : List NV) (w : World) (ha : FA w a f) (hl : f.length ≤ maxLen) : Cn Tryd.prog 75 [.slice a f.length ca] w (fun v _ => v = .int .i64 (chkF f)) := by
  unfold maxLen at hl
  refine Cn.of func75 rfl rfl ?_
  refine gS (gR ?_); refine gAs ?_; refine gE (gS (gS (gR ?_))); refine gMv ?_; refine gBl underlying23 ?_; refine gBi bEq ?_; refine gE ?_
  refine gC (fun hc => ?_) fun hc => ?_
  ·
   have h1 : f.length = 0 := by simpa using hc
   refine gS (gR ?_); refine gAs ?_; refine gE ?_
   refine gT func75 fun w' hS => ?_
   exact ⟨hS.ext, by rw [chkF, if_pos h1]; rfl⟩
  ·
   have h1 : ¬ f.length = 0 := by simpa using hc
   refine gK (gS (gS (gR ?_))); refine gMv ?_; refine gBl underlying23 ?_; refine gBi bGt ?_; refine gE ?_
   refine gC (fun hc => ?_) fun hc => ?_
   ·
    have h2 : 200 < f.length := by simp at hc; omega
    refine gS (gR ?_); refine gAs ?_; refine gE ?_
    refine gT func75 fun w' hS => ?_
    exact ⟨hS.ext, by rw [chkF, if_neg h1, if_pos h2]; rfl⟩
   ·
    have h2 : ¬ 200 < f.length := by simp at hc; omega
    refine gK (gS (gS (gR ?_))); refine gMv ?_; refine gBl underlying23 ?_; refine gMv ?_; refine gE (gB ?_)
    refine GoH.loop (σ := Nat) (fun k => [(0, .slice a f.length ca), (12, .slice a f.length ca), (13, .int .i64 f.length), (14, .int .i64 k)]) (fun _ => []) (fun k => k ≤ f.length ∧ firstE (errF f) k = 0) (fun k => f.length - k) 0 ⟨Nat.zero_le _, rfl⟩ ⟨rfl, rfl, rfl, rfl, trivial⟩ .slnil (fun k hI IH => ?_)
    obtain ⟨hk, hz⟩ := hI
    refine gS (gR ?_); refine gBi bLt ?_; refine gE (gS ?_)
    refine gC (fun hc => ?_) fun hc => ?_
    ·
     have hlt : k < f.length := by simpa using hc
     have he : errF f k = nodeE f[k] k := by simp [errF, List.getD_eq_getElem?_getD, hlt]
     refine gK (gS (gB (gS (gR ?_)))); refine gMv ?_
     refine GoH.v (Vop.idxN rfl rfl rfl rfl rfl underlying23 sizeOf80 ⟨_, (ha).at_⟩ (flat_len (enc := NV.cells) (sz := 6) (fun _ => rfl)) (by decide) (k) ⟨rfl, hlt⟩) ?_
     refine GoH.v (Vop.ldN (cs := NV.cells f[k]) rfl rfl rfl rfl isAgg80 sizeOf80 (fun w _ hS => Sl.many (enc := NV.cells) (sz := 6) (ha.ex0 hS.ext).at_ (fun _ => rfl) hlt)) ?_
     refine GoH.alc rfl rfl rfl (fun _ => zeroValue80 _) (fun b4 => ?_)
     refine gAs ?_
     refine GoH.stB rfl rfl rfl rfl sizeOf80 0 rfl rfl rfl rfl ?_
     refine gE (gS (gR ?_))
     refine GoH.v (Vop.ldB rfl rfl rfl rfl isAgg80 0 rfl sizeOf80 rfl) ?_
     refine gMv ?_
     refine gP rfl rfl rfl rfl rfl call105 (fun w _ hS => (by exact node_c f[k] k w)) ?_
     refine gAs ?_; refine gE (gS (gR ?_)); refine gMv ?_; refine gBi bNe ?_; refine gE ?_
     refine gC (fun hc => ?_) fun hc => ?_
     ·
      have h3 : nodeE f[k] k ≠ 0 := by simpa using hc
      refine gS (gR ?_); refine gMv ?_; refine gAs ?_; refine gE ?_
      refine gT func75 fun w' hS => ?_
      exact ⟨hS.ext, by rw [chkF, if_neg h1, if_neg h2, firstE_hit hz (by rw [he]; exact h3) hlt, he]; rfl⟩
     ·
      have h3 : nodeE f[k] k = 0 := by simpa using hc
      refine gK (gIb (gR ?_)); refine gBx rfl rfl rfl rfl (bAdd (by omega)) ?_; refine gMv ?_; refine gE ?_
      exact IH (k + 1) _ _ ⟨hlt, by rw [firstE, if_neg (by simp [hz]), he]; exact h3⟩ (by omega) ⟨rfl, rfl, rfl, rfl, trivial⟩ (.cons _ .slnil)
    ·
     have hge : ¬ k < f.length := by simpa using hc
     obtain rfl : k = f.length := by omega
     refine GoH.exit rfl (gS (gR ?_))
     refine gAs ?_; refine gE ?_
     refine gT func75 fun w' hS => ?_
     exact ⟨hS.ext, by rw [chkF, if_neg h1, if_neg h2, hz]; rfl⟩
end Go.Proofs.YtlihcmknfdckdaaDoor
