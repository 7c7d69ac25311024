
/- The walks of quaysidelaw02.small, quaysidelaw02.Fields, quaysidebase.Texts. -/
import Derived.Test.YtjacgdjnocpodaaGreatDoorMem
import Derived.Test.YtjacgdjnocpodaaGreatDoorRef1
import Derived.Deep.QuietTactic
import Derived.BigQuiet
namespace Go.Proofs.YtjacgdjnocpodaaGreatDoor
open Go.RowKit


theorem small_hi {fs : List Fd} (h : 70 < fs.length) : false = smallS fs := by unfold smallS; rw [decide_eq_false (by omega)]; simp
theorem small_lo {fs : List Fd} {b : Bool} (h : fs.length ≤ 70) (hb : decide ((sumF fs : Int) ≤ 6000) = b) : b = smallS fs := by
  unfold smallS; rw [decide_eq_true h, ← hb, Bool.true_and]; apply decide_eq_decide.2; omega

set_option maxHeartbeats 1000000 in
theorem law_Fields (A : Option Addr) (n c : Nat) (fs : List Fd) (w : World) (hf : RdF w A n fs) (hn : n ≤ 1073741824) :
    Calls Tryz.prog 6 #[.slice A n c] w fun e w' => ∃ A' c', e = .returned (.slice A' n c') ∧ RdF w' A' n fs ∧ n ≤ c' ∧ Ext w w' ∧ w'.ownsRow w.heap.size 36 2 (.slice A' n c') n (fldCells fs) := by
  have hl := hf.lenF
  go_enter Tryz.func6, Tryz.ntmps6
  have Hl := Lib.hid hl; clear hl
  go_wp2_with fail
  go_loopw [3, 8] (fun v i wr => ∃ k A' c', k ≤ n ∧ i = .int .i64 (k : Nat) ∧ v = .slice A' k c' ∧ wr.ownsRow w.heap.size 36 2 (.slice A' k c') k (fldCells (fs.take k)) ∧ k ≤ c' ∧ Ext w wr) (fun _ i _ => n - (intOf i).toNat)
  case atStart => exact ⟨0, none, 0, Nat.zero_le _, rfl, rfl, World.ownsRow_nil _ _ _ _, Nat.le_refl _, Ext.refl _⟩
  case round =>
    obtain ⟨k, A', c', hk, rfl, rfl, hown, hmc, hbr⟩ := hrel
    by_cases hlt : k < n
    · have hlt' : k < fs.length := by have := Hl.out; omega
      obtain ⟨b, o, rfl, hc0, hc1⟩ := (hf.ext hbr).atF hlt'
      have Hst := Lib.hid (take_step fs k hlt')
      generalize hx : fs[k] = x at *
      obtain ⟨nm, vl⟩ := x
      clear hx
      go_wp2_with (first
          | (at_builtin; refine wpList_app _ rfl (.tmp 12) (.tmp 18) 26 rfl w 36 _ 2 32 Tryz.underlying26 infoFld rfl (by decide) _ _ _ rfl ((hown.alloc _).alloc _) _ 1 1 (fldCells [(nm, vl)]) rfl (Rd.two _ _ _ _ (by simp)) (fldCells_one _) ((hbr.alloc _).alloc _) (by omega) (by decide) ?_; intro A2 c2 w3 hown3 hb3 hle3))
      go_roundw
      case rel => exact ⟨k + 1, A2, c2, by omega, by go_num, rfl, by rw [Hst.out, fldCells_app]; exact hown3, hle3, hb3⟩
      case measure => simp [intOf]; omega
    · obtain rfl : k = n := by omega
      have he : fs.take k = fs := List.take_of_length_le (by have := Hl.out; omega)
      rw [he] at hown
      go_wp2
      go_ret
      exact ⟨_, _, rfl, Rd.of_own hown, hmc, hbr, hown⟩

end Go.Proofs.YtjacgdjnocpodaaGreatDoor
