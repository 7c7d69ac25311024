/- The walks of field.Size, quaysidelaw02.awake; FieldGets returns true. -/
import Derived.Test.YteibmmhdlikckaaGet
namespace Go.Proofs.Yteibmmhdlikckaa
open Go.RowKit

theorem sizeF_step {fs : List Fd} {k : Nat} (h : k < fs.length) : sumF (fs.take (k + 1)) + 4 * (k + 1) = sumF (fs.take k) + 4 * k + (fs[k].1.size + fs[k].2.size + 4) := by
  rw [sumF_step h]; omega

set_option maxHeartbeats 1000000 in
theorem field_Size (A : Option Addr) (n c : Nat) (fs : List Fd) (w : World) (hf : RdF w A n fs)
    (hn : n ≤ 65536) (B : Nat) (hB : B ≤ 4294967296) (hsz : Bsz B fs) :
    Calls Try.prog 19 #[.slice A n c] w fun e w' => e = .returned (.int .i64 (sumF fs + 4 * n : Nat)) ∧ Ext w w' := by
  have hl := hf.lenF
  go_enter Try.func19, Try.ntmps19
  have Hl := Lib.hid hl; clear hl
  go_wp2_with fail
  go_loopw [3, 8] (fun v i wr => ∃ k, k ≤ n ∧ i = .int .i64 (k : Nat) ∧ v = .int .i64 (sumF (fs.take k) + 4 * k : Nat) ∧ Ext w wr) (fun _ i _ => n - (intOf i).toNat)
  case atStart => exact ⟨0, Nat.zero_le _, rfl, rfl, Ext.refl _⟩
  case round =>
    obtain ⟨k, hk, rfl, rfl, hbr⟩ := hrel
    have hsum2 : sumF (fs.take k) ≤ 65536 * (2 * B) := sumF_lt (hsz.take k) (by simp; omega)
    by_cases hlt : k < n
    · have hlt' : k < fs.length := by have := Hl.out; omega
      obtain ⟨b, o, rfl, hc0, hc1⟩ := (hf.ext hbr).atF hlt'
      obtain ⟨hbd1, hbd2⟩ := hsz.at_ hlt'
      have Hst := Lib.hid (sizeF_step hlt')
      generalize fs[k].1 = nm at *
      generalize fs[k].2 = vl at *
      generalize hX : sumF (fs.take k) + 4 * k = X at *
      have hX2 : X ≤ 65536 * (2 * B) + 4 * k := by omega
      clear hX
      go_wp2
      go_roundw
      case rel => exact ⟨k + 1, by omega, by go_num, by rw [Hst.out]; go_num, (hbr.alloc _)⟩
      case measure => simp [intOf]; omega
    · obtain rfl : k = n := by omega
      have he : fs.take k = fs := List.take_of_length_le (by have := Hl.out; omega)
      rw [he]
      go_wp2
      go_ret
      exact ⟨rfl, hbr⟩

def awakeFs : List Fd := [(⟨#[65]⟩, ⟨#[49]⟩), (⟨#[98]⟩, ⟨#[120]⟩), (⟨#[97]⟩, ⟨#[50]⟩)]
theorem awake_get : joinS (allS awakeFs ⟨#[65]⟩) = ⟨#[49, 44, 32, 50]⟩ ∧ (allS awakeFs ⟨#[65]⟩).length = 2 ∧ sumF awakeFs + 4 * 3 = 18 := by decide +kernel

theorem awake_bsz : Bsz 1 awakeFs := by unfold Bsz; decide +kernel

set_option maxHeartbeats 1000000 in
theorem law_awake (w : World) :
    Calls Try.prog 8 #[] w fun e w' => e = .returned (.bool true) ∧ Ext w w' := by
  go_enter Try.func8, Try.ntmps8
  go_wp2_with fail
  have hr : ∀ cs, cs = (fldCells awakeFs).toArray → RdF (w.alloc (.cells cs 41)) (some ⟨w.heap.size, 0, none⟩) 3 awakeFs := fun cs hcs => by
    subst hcs; exact Rd.lit w _ _ rfl 2 3 rfl
  have hr := hr _ rfl
  refine (field_Get _ _ _ _ _ _ hr (by omega) (by decide) 1 (by omega) awake_bsz (by decide +kernel)).mono ?_
  rintro e w2 ⟨rfl, hb2⟩
  rw [awake_get.1, awake_get.2.1]
  have hr2 := hr.ext hb2
  go_wp2_with fail
  refine (field_Size _ _ _ _ _ hr2 (by omega) 1 (by omega) awake_bsz).mono ?_
  rintro e w3 ⟨rfl, hb3⟩
  rw [awake_get.2.2]
  go_wp2_with fail
  go_ret
  exact ⟨rfl, (((Ext.refl _).alloc _).trans hb2).trans hb3⟩

theorem gets_small {fs : List Fd} (h : smallS fs = true) : fs.length ≤ 70 ∧ sumF fs ≤ 6000 := by
  simpa [smallS] using h

set_option maxHeartbeats 1000000 in
theorem law_FieldGets (A : Option Addr) (n c : Nat) (fs : List Fd) (name : ByteArray) (w : World) (hf : RdF w A n fs)
    (hn : n ≤ 9223372036854775807) (hs : name.size ≤ 9223372036854775807) (B : Nat) (hB : B ≤ 140737488355328) (hsz : Bsz B fs) :
    Calls Try.prog 3 #[.slice A n c, .string name] w fun e w' => e = .returned (.bool true) ∧ Ext w w' := by
  have hl := hf.lenF
  go_enter Try.func3, Try.ntmps3
  go_wp2_with fail
  have Hl := Lib.hid hl; clear hl
  refine (law_awake _).mono ?_; rintro e w1 ⟨rfl, hb1⟩
  go_wp2_with fail
  have hf1 := hf.ext hb1
  refine (law_small _ _ _ _ _ hf1 hn B hB hsz).mono ?_; rintro e w2 ⟨rfl, hb2⟩
  have hf2 := hf1.ext hb2
  by_cases hsm : smallS fs = true ∧ name.size ≤ 100
  · obtain ⟨hsm, hname⟩ := hsm
    obtain ⟨hs1, hs2⟩ := gets_small hsm
    have hn70 : n ≤ 70 := by have := Hl.out; omega
    rw [hsm]
    clear hsm
    go_wp2_with fail
    refine (law_Fields _ _ _ _ _ hf2 (by omega)).mono ?_; rintro e w3 ⟨A3, c3, rfl, hf3, hc3, hb3, -⟩
    go_wp2_with fail
    refine (field_Get _ _ _ _ _ _ hf3 (by omega) hs B hB hsz (by omega)).mono ?_; rintro e w4 ⟨rfl, hb4⟩
    have hf4 := (hf2.ext hb3).ext hb4
    go_wp2_with fail
    refine (ref_Get _ _ _ _ _ _ hf4 (by omega) (by omega) B hB hsz (by omega)).mono ?_; rintro e w5 ⟨rfl, hb5⟩
    have hf5 := hf4.ext hb5
    generalize hj : joinS (allS fs name) = J
    generalize hjl : decide (0 < (allS fs name).length) = L
    clear hj hjl
    go_wp2_with fail
    refine (law_Fields _ _ _ _ _ hf5 (by omega)).mono ?_; rintro e w6 ⟨A6, c6, rfl, hf6, hc6, hb6, -⟩
    go_wp2_with fail
    refine (field_All _ _ _ _ _ _ hf6 (by omega) hs (fun f hff => by have := (hsz f hff).1; omega)).mono ?_; rintro e w7 ⟨A7, n7, c7, rfl, hf7, hc7, hb7⟩
    go_wp2_with fail
    refine (ref_All _ _ _ _ _ _ ((hf5.ext hb6).ext hb7) (by omega) (by omega) (fun f hff => by have := (hsz f hff).1; omega)).mono ?_; rintro e w8 ⟨A8, n8, c8, rfl, hf8, hc8, hb8⟩
    have hl7 := hf7.lenS
    have hl8 := hf8.lenS
    have hal := allS_len fs name n
    rw [List.take_of_length_le (by have := Hl.out; omega)] at hal
    have hh7 : n7 ≤ n := by omega
    have hh8 : n8 ≤ n := by omega
    clear hl7 hl8
    go_wp2_with fail
    refine (base_Texts _ _ _ _ _ _ _ _ _ (hf7.ext hb8) hf8 (by omega) (by omega)).mono ?_; rintro e w9 ⟨rfl, hb9⟩
    rw [decide_eq_true rfl]
    have hJ : (J.toList == J.toList) = true := by simp
    cases L
    all_goals
      go_wp2_with fail
      go_ret
      exact ⟨rfl, (((((((hb1.trans hb2).trans hb3).trans hb4).trans hb5).trans hb6).trans hb7).trans hb8).trans hb9⟩
  · by_cases hsm1 : smallS fs = true
    · have hname : 100 < name.size := by
        rcases Nat.lt_or_ge 100 name.size with h | h
        · exact h
        · exact absurd ⟨hsm1, h⟩ hsm
      rw [hsm1]
      clear hsm hsm1
      go_wp2_with fail
      refine (law_awake _).mono ?_; rintro e w3 ⟨rfl, hb3⟩
      go_wp2_with fail
      go_ret
      exact ⟨rfl, (hb1.trans hb2).trans hb3⟩
    · have hsm1 : smallS fs = false := by simpa using hsm1
      rw [hsm1]
      clear hsm hsm1
      go_wp2_with fail
      refine (law_awake _).mono ?_; rintro e w3 ⟨rfl, hb3⟩
      go_wp2_with fail
      go_ret
      exact ⟨rfl, (hb1.trans hb2).trans hb3⟩
end Go.Proofs.Yteibmmhdlikckaa
