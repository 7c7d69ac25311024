
/- Errors by their numbers; the size of a trimmed string; unequal strings. Plain facts. -/
import Derived.Test.YtaebbnadmfbdjaaDoorCtl
set_option linter.unusedSimpArgs false
set_option linter.unusedVariables false
namespace Go.Proofs.YtaebbnadmfbdjaaDoor
open Go.RowKit

/-- An error by its number: 0 is none. -/
def errV (n : Nat) : Value := if n = 0 then .nilIface else .iface 88 (.int .i64 n)
theorem drop_le {α : Type} (p : α → Bool) : ∀ l : List α, (l.dropWhile p).length ≤ l.length
  | [] => Nat.le_refl _
  | x :: l => by
    rw [List.dropWhile_cons]
    split
    · exact Nat.le_succ_of_le (drop_le p l)
    · exact Nat.le_refl _
theorem trimF_size (s : ByteArray) : (trimF s).size ≤ s.size := by
  show (Lib.trimS s.data.toList blank).toArray.size ≤ s.data.size
  unfold Lib.trimS Lib.trimLeftS Lib.trimRightS
  have h1 := drop_le (blank.contains ·) s.data.toList.reverse
  have h2 := drop_le (blank.contains ·) (s.data.toList.reverse.dropWhile (blank.contains ·)).reverse
  simp only [List.length_reverse, Array.length_toList, List.size_toArray] at *
  omega

theorem eqS_no {a b : ByteArray} (h : a ≠ b) : (a.toList == b.toList) = false := by
  rw [Bool.eq_false_iff]; exact fun h' => h (eqS_iff.1 h')
end Go.Proofs.YtaebbnadmfbdjaaDoor
