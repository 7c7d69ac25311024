
/- The walks of quaysideref01.Lower, quaysideref02.Of, quaysideref02.All. -/
import Derived.Test.YtafmedphgmacaaaDoorAll
namespace Go.Proofs.YtafmedphgmacaaaDoor
open Go.RowKit

theorem conv_one (n : Int) (w : World) : (convert 64 9 (.slice (some ⟨w.heap.size, 0, none⟩) 1 1)).run Tryd.prog (w.alloc (.cells #[.int .u8 n] 5)) =
    .ok (.string ⟨#[UInt8.ofNat n.toNat]⟩) (w.alloc (.cells #[.int .u8 n] 5)) :=
  run_convert_bytes_arg (P := Tryd.prog) _ 64 5 Tryd.underlying64 Tryd.underlying5 w.heap.size 0 1 1 [n] rfl
    (fun i hi => by
      obtain rfl : i = 0 := by omega
      rw [World.cell?_alloc_mark]; rfl) 9 Tryd.underlying9

end Go.Proofs.YtafmedphgmacaaaDoor
