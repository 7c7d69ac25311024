
/- The walks of field.Remove, quaysideref02.Remove, slices.Clone, slices.Clip, field.Add, quaysideref02.Add. -/
import Derived.Test.YtjacgdjnocpodaaGreatDoorLaw2
import Derived.Lib.LazyBuf
namespace Go.Proofs.YtjacgdjnocpodaaGreatDoor
open Go.RowKit

theorem infoRfd : (Tryz.prog.info? 35).map (fun i => (i.zero, i.size, i.bytes)) = some (some (.agg #[.string ⟨#[]⟩, .string ⟨#[]⟩]), 2, 32) := by kernel_rfl

end Go.Proofs.YtjacgdjnocpodaaGreatDoor
