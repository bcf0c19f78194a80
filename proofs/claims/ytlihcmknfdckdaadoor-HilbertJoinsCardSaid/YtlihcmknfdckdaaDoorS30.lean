/- Laws of walks, for any program, under the conditions that each theorem states. -/
import Derived.Test.YtlihcmknfdckdaaDoorS23
import Derived.Test.YtlihcmknfdckdaaDoorS28
import Derived.Test.YtlihcmknfdckdaaDoorS16
namespace Go.Proofs.Wit
open Go Go.RowKit
/-! lines in blocks of one's own -/
abbrev obL (e : TypeId) (ls : List LV) (sp : List Value) : Obj := .cells (ls.flatMap LV.cells ++ sp).toArray e (0, 0)
theorem flatL {ls : List LV} : (ls.flatMap LV.cells).length = ls.length * 5 := flat_len (enc := LV.cells) (sz := 5) (fun _ => rfl)
/-! the lines of the examples -/
def pT : Tr := .leaf 3 0 0 0
def qT : Tr := .leaf 3 1 0 0
def knT : Tr := imT (kwT 0 pT) pT
def orT : Tr := .bin 6 0 0 0 pT (ntT pT)
def moT : Tr := imT (adT pT qT) pT
def mpT : Tr := imT (kwT 0 (adT pT qT)) (kwT 0 pT)
theorem pT_ok : pT.ok := ⟨by decide, rfl, by decide⟩
theorem qT_ok : qT.ok := ⟨by decide, rfl, by decide⟩
theorem knT_ok : knT.ok := im_ok (kw_ok (by decide) pT_ok) pT_ok
theorem orT_ok : orT.ok := ⟨by decide, rfl, by decide, pT_ok, nt_ok pT_ok⟩
theorem moT_ok : moT.ok := im_ok (ad_ok pT_ok qT_ok) pT_ok
theorem mpT_ok : mpT.ok := im_ok (kw_ok (by decide) (ad_ok pT_ok qT_ok)) (kw_ok (by decide) pT_ok)
theorem form_kn : formE (bT knT) = 0 := by decide +kernel
theorem form_or : formE (bT orT) = 0 := by decide +kernel
theorem form_mo : formE (bT moT) = 0 := by decide +kernel
theorem form_kor : formE (bT (kwT 1 orT)) = 0 := by decide +kernel
theorem form_kmo : formE (bT (kwT 0 moT)) = 0 := by decide +kernel
theorem form_mp : formE (bT mpT) = 0 := by decide +kernel
theorem form_K : formE (bT (imT (kwT 0 moT) mpT)) = 0 := by decide +kernel
theorem cf_b {t : Tr} (h : t.ok) (hf : formE (bT t) = 0) : Cf (bT t) t := Cf.ofB h (fun e => by rw [e] at hf; exact absurd hf (by decide))
theorem tau_or : AxTau orT := ⟨⟨[pT], by simp, fun u => ⟨fun h => by rw [List.mem_singleton.1 h]; exact List.mem_cons_self .., fun h => by
  have h' : u ∈ [pT, pT] := h
  simpa using h'⟩, by decide⟩, fun r => by
  show cmbB 6 (r pT) (cmbB 4 (r pT) false) = true
  cases r pT <;> rfl⟩
theorem tau_mo : AxTau moT := ⟨⟨[pT, qT], by decide, fun u => ⟨fun h => by
  have h' : u = pT ∨ u = qT := by simpa using h
  show u ∈ [pT, qT, pT]
  rcases h' with e | e <;> rw [e] <;> simp, fun h => by
  have h' : u ∈ [pT, qT, pT] := h
  simpa [or_comm, or_assoc, or_left_comm] using h'⟩, by decide⟩, fun r => by
  show cmbB 7 (cmbB 5 (r pT) (r qT)) (r pT) = true
  cases r pT <;> cases r qT <;> rfl⟩
theorem tau_kn : ¬ AxTau knT := fun h => by
 have := h.2 (fun u => decide (topO u = 9))
 exact absurd this (by decide)
theorem K_kn : ¬ AxK knT := fun h => by have := h.gd.2; exact absurd this (by decide)
theorem T_kn : AxT knT := ⟨0, pT, rfl⟩
theorem P_kn : ¬ AxP knT := fun h => by have := h.im; exact absurd this (by decide)
theorem E_kn : ¬ AxE knT := fun h => by have := h.im; exact absurd this (by decide)
theorem C_kn : ¬ AxC knT := fun h => by have := h.im; exact absurd this (by decide)
theorem K_mo : AxK (imT (kwT 0 moT) mpT) := ⟨0, adT pT qT, pT, rfl⟩
theorem lineE_ok {l : Int} {ls : List LV} {i : Nat} {x : LV} (h1 : formE x.f.f = 0) (h2 : 1 ≤ x.r ∧ x.r ≤ 12) (h3 : numE i x = 0) (h4 : hasL49 l x.r = true) (h5 : FolP ls x) : lineE l ls i x = 0 := by
 rw [lineE, if_neg (by simp [h1]), if_neg (by omega), if_neg (by simp [h3]), if_neg (by simp [h4]), if_pos h5]
theorem top_b {t : Tr} (h : t.ok) (hf : formE (bT t) = 0) : topT (bT t) = t := (cf_b h hf).top
end Go.Proofs.Wit
