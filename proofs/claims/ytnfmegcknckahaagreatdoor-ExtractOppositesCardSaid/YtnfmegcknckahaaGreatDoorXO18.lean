/- What calls of the program return, under the conditions that each theorem states. -/
import Derived.Test.YtnfmegcknckahaaGreatDoorXO16
import Derived.Test.YtnfmegcknckahaaGreatDoorXO03
import Derived.Test.YtnfmegcknckahaaGreatDoorXO04
import Derived.Test.YtnfmegcknckahaaGreatDoorXO17
import Derived.Test.YtnfmegcknckahaaGreatDoorXO15
import Derived.Test.YtnfmegcknckahaaGreatDoorXO14
import Derived.Test.YtnfmegcknckahaaGreatDoorXO13
namespace Go.Proofs.YtnfmegcknckahaaGreatDoor
open Go.RowKit Go.Proofs.Wit Tryz
theorem Cj {o:Int} (h:o=1∨o=2):aQ ⟨o,0,0,0,0,0⟩ []=bT (cT o):=by rcases h with rfl|rfl<;>exact D1 (n:=⟨_,0,0,0,0,0⟩) (by decide) rfl rfl rfl rfl
end Go.Proofs.YtnfmegcknckahaaGreatDoor
namespace Go.Proofs.YtnfmegcknckahaaGreatDoor
open Go.RowKit Go.Proofs.Wit Tryz
def fQ (t:Tr) (ts:List Tr):Tr:=ts.foldl (fun a b=>.bin 5 0 0 0 a b) t
end Go.Proofs.YtnfmegcknckahaaGreatDoor
namespace Go.Proofs.YtnfmegcknckahaaGreatDoor
open Go.RowKit Go.Proofs.Wit Tryz
theorem DA:(Tryz.prog.info? 22).map (fun i=>(i.zero,i.size,i.bytes))=some (some (Value.slice none 0 0),1,24):=by kernel_rfl
end Go.Proofs.YtnfmegcknckahaaGreatDoor
