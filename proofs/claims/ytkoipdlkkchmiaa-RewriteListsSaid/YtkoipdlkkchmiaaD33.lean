/- Laws of walks, for any program, under the conditions that each theorem states. -/
import Derived.Test.YtkoipdlkkchmiaaD31
namespace Go.Proofs.Wit
open Go Go.RowKit
theorem Cf.neB {f : List NV} {t : Tr} (h : Cf f t) : bT t ≠ [] := by rw [← h.eq]; exact h.ne
end Go.Proofs.Wit
