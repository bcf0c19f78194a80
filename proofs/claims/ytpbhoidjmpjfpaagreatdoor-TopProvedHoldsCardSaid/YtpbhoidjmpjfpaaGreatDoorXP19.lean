/- What calls return, each under its own conditions. -/
import Derived.Test.YtpbhoidjmpjfpaaGreatDoorXP17
set_option maxRecDepth 100000
set_option maxHeartbeats 40000000
namespace Go.Proofs.YtpbhoidjmpjfpaaGreatDoor
open Go.RowKit Go.Proofs.Wit Tryz
theorem Qt{o:Int}(h:o=1\/o=2):gh ⟨o,0,0,0,0,0⟩ []=bT (cT o):=by rcases h with rfl|rfl<;>exact Sp (n:=⟨_,0,0,0,0,0⟩) aI rfl rfl rfl rfl
def zu(t:Tr)(ts:List Tr):Tr:=ts.foldl (λa b=>.bin 5 0 0 0 a b) t
theorem Lj:(Tryz.prog.info? 22).map (λi=>(i.zero,i.size,i.bytes))=some (some (Value.slice none 0 0),1,24):=by kernel_rfl
end Go.Proofs.YtpbhoidjmpjfpaaGreatDoor
