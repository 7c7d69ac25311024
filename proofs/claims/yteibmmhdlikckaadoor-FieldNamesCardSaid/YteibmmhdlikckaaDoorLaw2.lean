
/- The walks of field.Size, quaysidelaw02.awake; FieldGets returns true. -/
import Derived.Test.YteibmmhdlikckaaDoorGet
set_option linter.unusedSimpArgs false
set_option linter.unusedVariables false
namespace Go.Proofs.YteibmmhdlikckaaDoor
open Go.RowKit

theorem sizeF_step {fs : List Fd} {k : Nat} (h : k < fs.length) : sumF (fs.take (k + 1)) + 4 * (k + 1) = sumF (fs.take k) + 4 * k + (fs[k].1.size + fs[k].2.size + 4) := by
  rw [sumF_step h]; omega

set_option maxHeartbeats 1000000 in
theorem field_Size (A : Option Addr) (n c : Nat) (fs : List Fd) (w : World) (hf : RdF w A n fs)
    (hn : n ≤ 65536) (B : Nat) (hB : B ≤ 4294967296) (hsz : Bsz B fs) :
    Calls Tryd.prog 21 #[.slice A n c] w fun e w' => e = .returned (.int .i64 (sumF fs + 4 * n : Nat)) ∧ Ext w w' := by
  have hl := hf.lenF
  go_enter Tryd.func21, Tryd.ntmps21
  have Hl := Lib.hid hl; clear hl
  go_wp2_with fail
  go_loopw [3, 8] (fun v i wr => ∃ k, k ≤ n ∧ i = .int .i64 (k : Nat) ∧ v = .int .i64 (sumF (fs.take k) + 4 * k : Nat) ∧ Ext w wr) (fun _ i _ => n - (intOf i).toNat)
  case atStart => exact ⟨0, Nat.zero_le _, rfl, rfl, Ext.refl _⟩
  case round =>
    obtain ⟨k, hk, rfl, rfl, hbr⟩ := hrel
    have hsum2 : sumF (fs.take k) ≤ 65536 * (2 * B) := sumF_lt (hsz.take k) (by simp; omega)
    by_cases hlt : k < n
    · have hlt' : k < fs.length := by have := Hl.out; omega
      obtain ⟨b, o, rfl, hc0, hc1⟩ := (hf.ext hbr).atF hlt'
      obtain ⟨hbd1, hbd2⟩ := hsz.at_ hlt'
      have Hst := Lib.hid (sizeF_step hlt')
      generalize fs[k].1 = nm at *
      generalize fs[k].2 = vl at *
      generalize hX : sumF (fs.take k) + 4 * k = X at *
      have hX2 : X ≤ 65536 * (2 * B) + 4 * k := by omega
      clear hX
      go_wp2
      go_roundw
      case rel => exact ⟨k + 1, by omega, by go_num, by rw [Hst.out]; go_num, (hbr.alloc _)⟩
      case measure => simp [intOf]; omega
    · obtain rfl : k = n := by omega
      have he : fs.take k = fs := List.take_of_length_le (by have := Hl.out; omega)
      rw [he]
      go_wp2
      go_ret
      exact ⟨rfl, hbr⟩

def awakeFs : List Fd := [(⟨#[65]⟩, ⟨#[49]⟩), (⟨#[98]⟩, ⟨#[120]⟩), (⟨#[97]⟩, ⟨#[50]⟩)]
theorem awake_get : joinS (allS awakeFs ⟨#[65]⟩) = ⟨#[49, 44, 32, 50]⟩ ∧ (allS awakeFs ⟨#[65]⟩).length = 2 ∧ sumF awakeFs + 4 * 3 = 18 := by decide +kernel

theorem awake_bsz : Bsz 1 awakeFs := by unfold Bsz; decide +kernel

set_option maxHeartbeats 1000000 in
theorem law_awake (w : World) :
    Calls Tryd.prog 6 #[] w fun e w' => e = .returned (.bool true) ∧ Ext w w' := by
  go_enter Tryd.func6, Tryd.ntmps6
  go_wp2_with fail
  have hr : ∀ cs, cs = (fldCells awakeFs).toArray → RdF (w.alloc (.cells cs 45)) (some ⟨w.heap.size, 0, none⟩) 3 awakeFs := fun cs hcs => by
    subst hcs; exact Rd.lit w _ _ rfl 2 3 rfl
  have hr := hr _ rfl
  refine (field_Get _ _ _ _ _ _ hr (by omega) (by decide) 1 (by omega) awake_bsz (by decide +kernel)).mono ?_
  rintro e w2 ⟨rfl, hb2⟩
  rw [awake_get.1, awake_get.2.1]
  have hr2 := hr.ext hb2
  go_wp2_with fail
  refine (field_Size _ _ _ _ _ hr2 (by omega) 1 (by omega) awake_bsz).mono ?_
  rintro e w3 ⟨rfl, hb3⟩
  rw [awake_get.2.2]
  go_wp2_with fail
  go_ret
  exact ⟨rfl, (((Ext.refl _).alloc _).trans hb2).trans hb3⟩

theorem gets_small {fs : List Fd} (h : smallS fs = true) : fs.length ≤ 70 ∧ sumF fs ≤ 6000 := by
  simpa [smallS] using h

end Go.Proofs.YteibmmhdlikckaaDoor
