
/- The library's own variable that every call of the package needs, out of a world's shape. -/
import Derived.Test.YtjacgdjnocpodaaGreatDoorElem0
import Derived.Deep.DeepHandedRow
namespace Go.Proofs.YtjacgdjnocpodaaGreatDoor
open Go.RowKit

theorem gl_of {w : World} (h : w.ShapedOpen Tryz.prog) : Gl w :=
  Go.Proofs.cell_of_shapedOpen_int (zero := #[.int .i64 0]) (t := 3) h (of_decide_eq_true (by kernel_rfl)) (by kernel_rfl) rfl (by kernel_rfl) (by kernel_rfl) Tryz.underlying3
theorem u8_wf {x : Int} (h : (Lit.int .u8 x).wf = true) : 0 ≤ x ∧ x ≤ 255 := by
  simp [Lit.wf] at h
  have e1 : IntKind.u8.min = 0 := rfl
  have e2 : IntKind.u8.max = 255 := rfl
  omega
end Go.Proofs.YtjacgdjnocpodaaGreatDoor
