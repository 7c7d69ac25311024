
/- The walk of quaysidebase.Num: the number of an error. -/
import Derived.Test.YtghaopeijncgaaaDoorErr
namespace Go.Proofs.YtghaopeijncgaaaDoor
open Go.RowKit

theorem assert_num (v : Value) (w : World) : (Instr.typeAssert (.iface 34 v) 26 34 true).run Tryd.prog w = .ok (.tuple #[v, .bool true]) w := by
  simp [Instr.typeAssert, run_underlying Tryd.underlying34]

set_option maxHeartbeats 1000000 in
theorem base_Num (n : Nat) (hn : n < 1000) (w : World) :
    Calls Tryd.prog 37 #[errV n] w fun e w' => e = .returned (.int .i64 (n : Nat)) ∧ Ext w w' := by
  rcases Nat.eq_zero_or_pos n with h0 | h0
  · subst h0
    rw [show errV 0 = .nilIface from rfl]
    go_enter Tryd.func37, Tryd.ntmps37
    go_wp2_with fail
    go_ret
    exact ⟨rfl, Ext.refl _⟩
  · rw [show errV n = .iface 34 (.int .i64 n) by unfold errV; rw [if_neg (by omega)]]
    go_enter Tryd.func37, Tryd.ntmps37
    have ha := assert_num (.int .i64 n)
    go_wp2_with fail
    go_ret
    exact ⟨rfl, Ext.refl _⟩
end Go.Proofs.YtghaopeijncgaaaDoor
