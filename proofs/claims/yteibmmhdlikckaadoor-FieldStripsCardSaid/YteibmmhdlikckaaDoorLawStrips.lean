
/- FieldStrips returns true. -/
import Derived.Test.YteibmmhdlikckaaDoorStripR
set_option linter.unusedSimpArgs false
set_option linter.unusedVariables false
namespace Go.Proofs.YteibmmhdlikckaaDoor
open Go.RowKit

theorem smallB {fs : List Fd} (h : sumF fs ≤ 6000) : Bsz 6000 fs := by
  intro f hf
  have : f.1.size + f.2.size ≤ sumF fs := by
    induction fs with
    | nil => simp at hf
    | cons x l ih =>
      simp only [sumF, List.map_cons, List.sum_cons] at *
      rcases List.mem_cons.1 hf with rfl | hf
      · omega
      · have := ih (by omega) hf; omega
  omega

set_option maxHeartbeats 2000000 in
theorem law_FieldStrips (A : Option Addr) (n c : Nat) (fs : List Fd) (w : World) (hf : RdF w A n fs)
    (hn : n ≤ 9223372036854775807) (B : Nat) (hB : B ≤ 140737488355328) (hsz : Bsz B fs) :
    Calls Tryd.prog 5 #[.slice A n c] w fun e w' => e = .returned (.bool true) ∧ Ext w w' := by
  have hl := hf.lenF
  go_enter Tryd.func5, Tryd.ntmps5
  go_wp2_with fail
  have Hl := Lib.hid hl; clear hl
  refine (law_awake _).mono ?_; rintro e w1 ⟨rfl, hb1⟩
  go_wp2_with fail
  have hf1 := hf.ext hb1
  refine (law_small _ _ _ _ _ hf1 hn B hB hsz).mono ?_; rintro e w2 ⟨rfl, hb2⟩
  have hf2 := hf1.ext hb2
  cases hsm : smallS fs
  · clear hsm
    go_wp2_with fail
    refine (law_awake _).mono ?_; rintro e w3 ⟨rfl, hb3⟩
    go_wp2_with fail
    go_ret
    exact ⟨rfl, (hb1.trans hb2).trans hb3⟩
  · obtain ⟨hs1, hs2⟩ := gets_small hsm
    have hn70 : n ≤ 70 := by have := Hl.out; omega
    have hz := smallB hs2
    clear hsm
    go_wp2_with fail
    refine (law_Fields _ _ _ _ _ hf2 (by omega)).mono ?_; rintro e w3 ⟨A3, c3, rfl, hf3, hc3, hb3, -⟩
    go_wp2_with fail
    refine (field_Strip _ _ _ fs _ hf3 hn70 hz).mono ?_; rintro e w4 ⟨A4, n4, c4, rfl, hr4, hc4, hb4⟩
    have hl4 := hr4.lenF
    have hsl := strip_len fs
    have hn4 : n4 ≤ 70 := by have := Hl.out; omega
    have hz4 := strip_bsz hz
    have hsb := sumF_lt hz4 (n := 70) (by have := Hl.out; omega)
    have Hall := Lib.hid (strip_all fs)
    have Htwo := Lib.hid (strip_two fs)
    have hf4 := (hf2.ext hb3).ext hb4
    clear hl4 hsl
    generalize hS : stripS fs = S at *
    go_wp2_with fail
    have hz4' := hz4.mono (show 6000 ≤ 140737488355328 by omega)
    refine (field_Get _ _ _ S connS _ hr4 (by omega) (by decide) 6000 (by omega) hz4 (by omega)).mono ?_; rintro e w5 ⟨rfl, hb5⟩
    rw [Hall.out, show decide (0 < ([] : List ByteArray).length) = false from rfl]
    generalize joinS [] = J
    go_wp2_with fail
    refine (ref_Strip _ _ _ fs _ (hf4.ext hb5) hn70 hz).mono ?_; rintro e w6 ⟨A6, n6, c6, rfl, hr6, hc6, hb6⟩
    rw [hS] at hr6
    have hl6 := hr6.lenF
    have hl4 := hr4.lenF
    have hn6 : n6 ≤ 70 := by omega
    clear hl6 hl4
    have hr46 := (hr4.ext hb5).ext hb6
    go_wp2_with fail
    refine (law_Are _ _ _ _ _ _ S S _ hr46 hr6 (by omega) (by omega)).mono ?_; rintro e w7 ⟨rfl, hb7⟩
    rw [decide_eq_true rfl]
    have hr47 := hr46.ext hb7
    go_wp2_with fail
    refine (field_Strip _ _ _ S _ hr47 hn4 hz4).mono ?_; rintro e w8 ⟨A8, n8, c8, rfl, hr8, hc8, hb8⟩
    rw [Htwo.out] at hr8
    have hl8 := hr8.lenF
    have hl4 := hr4.lenF
    have hn8 : n8 ≤ 70 := by omega
    clear hl8 hl4
    go_wp2_with fail
    refine (law_Ref _ _ _ S _ (hr47.ext hb8) (by omega)).mono ?_; rintro e w9 ⟨A9, c9, rfl, hr9, hc9, hb9, -⟩
    go_wp2_with fail
    refine (law_Are _ _ _ _ _ _ S S _ (hr8.ext hb9) hr9 (by omega) (by omega)).mono ?_; rintro e w10 ⟨rfl, hb10⟩
    rw [decide_eq_true rfl]
    go_wp2_with fail
    go_ret
    exact ⟨rfl, ((((((((hb1.trans hb2).trans hb3).trans hb4).trans hb5).trans hb6).trans hb7).trans hb8).trans hb9).trans hb10⟩
end Go.Proofs.YteibmmhdlikckaaDoor
