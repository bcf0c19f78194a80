/- What calls of the program return, under the conditions that each theorem states. -/
import Derived.Test.YtnfmegcknckahaaGreatDoorXA16
import Derived.Test.YtnfmegcknckahaaGreatDoorXA03
import Derived.Test.YtnfmegcknckahaaGreatDoorXA04
import Derived.Test.YtnfmegcknckahaaGreatDoorXA17
import Derived.Test.YtnfmegcknckahaaGreatDoorXA15
import Derived.Test.YtnfmegcknckahaaGreatDoorXA14
import Derived.Test.YtnfmegcknckahaaGreatDoorXA13
namespace Go.Proofs.YtnfmegcknckahaaGreatDoor
open Go.RowKit Go.Proofs.Wit Tryz
theorem Cx {o:Int} (h:o=1∨o=2):aR ⟨o,0,0,0,0,0⟩ []=bT (cT o):=by rcases h with rfl|rfl<;>exact Ed (n:=⟨_,0,0,0,0,0⟩) (by decide) rfl rfl rfl rfl
end Go.Proofs.YtnfmegcknckahaaGreatDoor
namespace Go.Proofs.YtnfmegcknckahaaGreatDoor
open Go.RowKit Go.Proofs.Wit Tryz
def fM (t:Tr) (ts:List Tr):Tr:=ts.foldl (fun a b=>.bin 5 0 0 0 a b) t
end Go.Proofs.YtnfmegcknckahaaGreatDoor
namespace Go.Proofs.YtnfmegcknckahaaGreatDoor
open Go.RowKit Go.Proofs.Wit Tryz
theorem yW:(Tryz.prog.info? 22).map (fun i=>(i.zero,i.size,i.bytes))=some (some (Value.slice none 0 0),1,24):=by kernel_rfl
end Go.Proofs.YtnfmegcknckahaaGreatDoor
