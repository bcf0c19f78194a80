/-
  DERIVED. GIVEN WITH THE SEED: THE PROGRAM's TIES (one call each: nine closed facts by the kernel) AND EACH ROW's TIE, after the 31st guide's Derived/Test/Toyas{Tie, Card}.lean. No idea stands in it: it is a product of the set-up. Laid BY PROGRAM, IN A SANDBOX (cutbox-door.mjs). By AI agents, Wed Nov 11 2026. No macro, syntax, notation, axiom, sorry.
-/
import Derived.Test.YtpbhoidjmpjfpaaGreatDoorRows
import Derived.LaidByTextLater
import Derived.SevenTiedAt
import Derived.LaidSub
import Derived.LaidOnce
namespace Go.Proofs.YtpbhoidjmpjfpaaGreatDoor
open Go
set_option maxRecDepth 100000
theorem seatTie1 : Tryz.prog.laidByTextLater [("math/bits.deBruijn64tab", Rows.laid_math_bits_deBruijn64tab), ("witting/hilbert.axioms", Rows.laid_witting_hilbert_axioms)] [.data, .funcs] true :=
  Program.laidByTextLater_by_one 19 8 65 (by kernel_rfl) (by kernel_rfl) (by kernel_rfl) (by kernel_rfl) (by kernel_rfl) (by kernel_rfl) (fun _ _ => by kernel_rfl)
theorem noOwnUnsafe : Tryz.pinned.checked.prog.headLifts.contains "ownunsafe" = false := by kernel_rfl
theorem tie : Tryz.prog.laidByTextLater [("witting/hilbert.axioms", Rows.laid_witting_hilbert_axioms)] [.funcs] true :=
  Program.laidByTextLater.sub seatTie1 ["witting/hilbert.axioms"] (by kernel_rfl) (by kernel_rfl)
theorem topExtracted_row_tie : Rows.topExtractedRow.laidByTextAt .later Tryz.pinned [.funcs] true :=
  OpenClaim.laidByTextAt_later rfl rfl tie noOwnUnsafe
theorem topTrimmed_row_tie : Rows.topTrimmedRow.laidByTextAt .later Tryz.pinned [.funcs] true :=
  OpenClaim.laidByTextAt_later rfl rfl tie noOwnUnsafe
theorem tie2 : Tryz.prog.laidByTextLater [("math/bits.deBruijn64tab", Rows.laid_math_bits_deBruijn64tab), ("witting/hilbert.axioms", Rows.laid_witting_hilbert_axioms)] [.data, .funcs] true :=
  Program.laidByTextLater.sub seatTie1 ["math/bits.deBruijn64tab", "witting/hilbert.axioms"] (by kernel_rfl) (by kernel_rfl)
theorem topProvedHolds_row_tie : Rows.topProvedHoldsRow.laidByTextAt .later Tryz.pinned [.data, .funcs] true :=
  OpenClaim.laidByTextAt_later rfl rfl tie2 noOwnUnsafe
theorem topExtractedUpto_row_tie : Rows.topExtractedUptoRow.laidByTextAt .later Tryz.pinned [.funcs] true :=
  OpenClaim.laidByTextAt_later rfl rfl tie noOwnUnsafe
theorem topTrimmedUpto_row_tie : Rows.topTrimmedUptoRow.laidByTextAt .later Tryz.pinned [.funcs] true :=
  OpenClaim.laidByTextAt_later rfl rfl tie noOwnUnsafe
theorem topProvedHoldsUpto_row_tie : Rows.topProvedHoldsUptoRow.laidByTextAt .later Tryz.pinned [.data, .funcs] true :=
  OpenClaim.laidByTextAt_later rfl rfl tie2 noOwnUnsafe
end Go.Proofs.YtpbhoidjmpjfpaaGreatDoor
