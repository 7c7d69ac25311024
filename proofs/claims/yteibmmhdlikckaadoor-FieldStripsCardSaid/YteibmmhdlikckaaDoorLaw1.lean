
/- The walks of quaysidelaw02.small, quaysidelaw02.Fields, quaysidebase.Texts. -/
import Derived.Test.YteibmmhdlikckaaDoorRef1
import Derived.Deep.QuietTactic
import Derived.BigQuiet
set_option linter.unusedSimpArgs false
set_option linter.unusedVariables false
namespace Go.Proofs.YteibmmhdlikckaaDoor
open Go.RowKit

theorem infoFld : (Tryd.prog.info? 45).map (fun i => (i.zero, i.size, i.bytes)) = some (some (.agg #[.string ⟨#[]⟩, .string ⟨#[]⟩]), 2, 32) := by kernel_rfl

theorem small_hi {fs : List Fd} (h : 70 < fs.length) : false = smallS fs := by unfold smallS; rw [decide_eq_false (by omega)]; simp
theorem small_lo {fs : List Fd} {b : Bool} (h : fs.length ≤ 70) (hb : decide ((sumF fs : Int) ≤ 6000) = b) : b = smallS fs := by
  unfold smallS; rw [decide_eq_true h, ← hb, Bool.true_and]; apply decide_eq_decide.2; omega

set_option maxHeartbeats 1000000 in
theorem law_small_lo (A : Option Addr) (n c : Nat) (fs : List Fd) (w : World) (hf : RdF w A n fs)
    (hn : n ≤ 70) (B : Nat) (hB : B ≤ 140737488355328) (hsz : Bsz B fs) :
    Calls Tryd.prog 12 #[.slice A n c] w fun e w' => e = .returned (.bool (smallS fs)) ∧ Ext w w' := by
  have hl := hf.lenF
  go_enter Tryd.func12, Tryd.ntmps12
  have Hl := Lib.hid hl; clear hl
  go_wp2_with fail
  go_loopw [3, 8] (fun v i wr => ∃ k, k ≤ n ∧ i = .int .i64 (k : Nat) ∧ v = .int .i64 (sumF (fs.take k) : Nat) ∧ Ext w wr) (fun _ i _ => n - (intOf i).toNat)
  case atStart => exact ⟨0, Nat.zero_le _, rfl, rfl, Ext.refl _⟩
  case round =>
    obtain ⟨k, hk, rfl, rfl, hbr⟩ := hrel
    have hsum2 : sumF (fs.take k) ≤ 70 * (2 * B) := sumF_lt (hsz.take k) (by simp; omega)
    by_cases hlt : k < n
    · have hlt' : k < fs.length := by have := Hl.out; omega
      obtain ⟨b, o, rfl, hc0, hc1⟩ := (hf.ext hbr).atF hlt'
      obtain ⟨hbd1, hbd2⟩ := hsz.at_ hlt'
      have Hst := Lib.hid (sumF_step hlt')
      generalize fs[k].1 = nm at *
      generalize fs[k].2 = vl at *
      generalize hX : sumF (fs.take k) = X at *
      clear hX
      go_wp2
      go_roundw
      case rel => exact ⟨k + 1, by omega, by go_num, by rw [Hst.out]; go_num, (hbr.alloc _)⟩
      case measure => simp [intOf]; omega
    · obtain rfl : k = n := by omega
      have he : fs.take k = fs := List.take_of_length_le (by have := Hl.out; omega)
      rw [he] at hsum2
      rw [he]
      have Hlo := Lib.hid (fun b => small_lo (fs := fs) (b := b) (by have := Hl.out; omega))
      generalize sumF fs = X at *
      clear he
      go_wp2
      · go_ret
        exact ⟨congrArg (fun x => Ending.returned (.bool x)) (Hlo.out _ rfl), hbr⟩

set_option maxHeartbeats 1000000 in
theorem law_small_hi (A : Option Addr) (n c : Nat) (fs : List Fd) (w : World) (hf : RdF w A n fs)
    (hn : 70 < n) (hn2 : n ≤ 9223372036854775807) :
    Calls Tryd.prog 12 #[.slice A n c] w fun e w' => e = .returned (.bool (smallS fs)) ∧ Ext w w' := by
  have hl := hf.lenF
  go_enter Tryd.func12, Tryd.ntmps12
  have Hl := Lib.hid hl; clear hl
  go_wp2_with fail
  go_loopw [3, 8] (fun v i wr => ∃ k z, k ≤ n ∧ i = .int .i64 (k : Nat) ∧ v = .int .i64 z ∧ Ext w wr) (fun _ i _ => n - (intOf i).toNat)
  case atStart => exact ⟨0, 0, Nat.zero_le _, rfl, rfl, Ext.refl _⟩
  case round =>
    obtain ⟨k, z, hk, rfl, rfl, hbr⟩ := hrel
    by_cases hlt : k < n
    · have hlt' : k < fs.length := by have := Hl.out; omega
      obtain ⟨b, o, rfl, hc0, hc1⟩ := (hf.ext hbr).atF hlt'
      generalize fs[k].1 = nm at *
      generalize fs[k].2 = vl at *
      go_wp2
      go_roundw
      case rel => exact ⟨k + 1, _, by omega, by go_num, rfl, (hbr.alloc _)⟩
      case measure => simp [intOf]; omega
    · obtain rfl : k = n := by omega
      have Hhi := Lib.hid (small_hi (fs := fs) (by have := Hl.out; omega))
      go_wp2
      go_ret
      exact ⟨congrArg (fun x => Ending.returned (.bool x)) Hhi.out, hbr⟩

theorem law_small (A : Option Addr) (n c : Nat) (fs : List Fd) (w : World) (hf : RdF w A n fs)
    (hn : n ≤ 9223372036854775807) (B : Nat) (hB : B ≤ 140737488355328) (hsz : Bsz B fs) :
    Calls Tryd.prog 12 #[.slice A n c] w fun e w' => e = .returned (.bool (smallS fs)) ∧ Ext w w' := by
  by_cases h : n ≤ 70
  · exact law_small_lo A n c fs w hf h B hB hsz
  · exact law_small_hi A n c fs w hf (by omega) hn

set_option maxHeartbeats 1000000 in
theorem law_Fields (A : Option Addr) (n c : Nat) (fs : List Fd) (w : World) (hf : RdF w A n fs) (hn : n ≤ 1073741824) :
    Calls Tryd.prog 14 #[.slice A n c] w fun e w' => ∃ A' c', e = .returned (.slice A' n c') ∧ RdF w' A' n fs ∧ n ≤ c' ∧ Ext w w' ∧ w'.ownsRow w.heap.size 45 2 (.slice A' n c') n (fldCells fs) := by
  have hl := hf.lenF
  go_enter Tryd.func14, Tryd.ntmps14
  have Hl := Lib.hid hl; clear hl
  go_wp2_with fail
  go_loopw [3, 8] (fun v i wr => ∃ k A' c', k ≤ n ∧ i = .int .i64 (k : Nat) ∧ v = .slice A' k c' ∧ wr.ownsRow w.heap.size 45 2 (.slice A' k c') k (fldCells (fs.take k)) ∧ k ≤ c' ∧ Ext w wr) (fun _ i _ => n - (intOf i).toNat)
  case atStart => exact ⟨0, none, 0, Nat.zero_le _, rfl, rfl, World.ownsRow_nil _ _ _ _, Nat.le_refl _, Ext.refl _⟩
  case round =>
    obtain ⟨k, A', c', hk, rfl, rfl, hown, hmc, hbr⟩ := hrel
    by_cases hlt : k < n
    · have hlt' : k < fs.length := by have := Hl.out; omega
      obtain ⟨b, o, rfl, hc0, hc1⟩ := (hf.ext hbr).atF hlt'
      have Hst := Lib.hid (take_step fs k hlt')
      generalize hx : fs[k] = x at *
      obtain ⟨nm, vl⟩ := x
      clear hx
      go_wp2_with (first
          | (at_builtin; refine wpList_app _ rfl (.tmp 12) (.tmp 18) 35 rfl w 45 _ 2 32 Tryd.underlying35 infoFld rfl (by decide) _ _ _ rfl ((hown.alloc _).alloc _) _ 1 1 (fldCells [(nm, vl)]) rfl (Rd.two _ _ _ _ (by simp)) (fldCells_one _) ((hbr.alloc _).alloc _) (by omega) (by decide) ?_; intro A2 c2 w3 hown3 hb3 hle3))
      go_roundw
      case rel => exact ⟨k + 1, A2, c2, by omega, by go_num, rfl, by rw [Hst.out, fldCells_app]; exact hown3, hle3, hb3⟩
      case measure => simp [intOf]; omega
    · obtain rfl : k = n := by omega
      have he : fs.take k = fs := List.take_of_length_le (by have := Hl.out; omega)
      rw [he] at hown
      go_wp2
      go_ret
      exact ⟨_, _, rfl, Rd.of_own hown, hmc, hbr, hown⟩

end Go.Proofs.YteibmmhdlikckaaDoor
