/- What calls of the program return, under the conditions that each theorem states. -/
import Derived.Test.YtchhieaagchhhaaGreatDoorXT19
import Derived.Test.YtchhieaagchhhaaGreatDoorXT20
set_option maxRecDepth 100000
set_option maxHeartbeats 4000000
namespace Go.Proofs.YtchhieaagchhhaaGreatDoor
open Go.RowKit Go.Proofs.Wit Tryz
theorem Fh {o:Int} (h:o=1∨o=2):aU ⟨o,0,0,0,0,0⟩ []=bT (cT o):=by rcases h with rfl|rfl<;>exact He (n:=⟨_,0,0,0,0,0⟩) (by decide) rfl rfl rfl rfl
def l7 (t:Tr) (ts:List Tr):Tr:=ts.foldl (fun a b=>.bin 5 0 0 0 a b) t
theorem GK:(Tryz.prog.info? 22).map (fun i=>(i.zero,i.size,i.bytes))=some (some (Value.slice none 0 0),1,24):=by kernel_rfl
end Go.Proofs.YtchhieaagchhhaaGreatDoor
