/- FieldSame returns true: the walk. -/
import Derived.Test.YteibmmhdlikckaaSameR
namespace Go.Proofs.Yteibmmhdlikckaa
open Go.RowKit

theorem small_bsz {fs : List Fd} (h : sumF fs ≤ 6000) : Bsz 6000 fs := by
  intro f hf
  have : f.1.size + f.2.size ≤ sumF fs := by
    induction fs with
    | nil => simp at hf
    | cons x l ih =>
      simp only [sumF, List.map_cons, List.sum_cons] at *
      rcases List.mem_cons.1 hf with rfl | hf
      · omega
      · have := ih (by omega) hf; omega
  omega

set_option maxHeartbeats 1000000 in
theorem law_FieldSame (A A2 : Option Addr) (n c n2 c2 : Nat) (fs gs : List Fd) (w : World) (hf : RdF w A n fs) (hg : RdF w A2 n2 gs)
    (hn : n ≤ 9223372036854775807) (hn2 : n2 ≤ 9223372036854775807) (B : Nat) (hB : B ≤ 140737488355328) (hsz : Bsz B fs) (hsz2 : Bsz B gs) :
    Calls Try.prog 4 #[.slice A n c, .slice A2 n2 c2] w fun e w' => e = .returned (.bool true) ∧ Ext w w' := by
  have hl := hf.lenF
  have hl2 := hg.lenF
  go_enter Try.func4, Try.ntmps4
  go_wp2_with fail
  have Hl := Lib.hid hl; clear hl
  have Hl2 := Lib.hid hl2; clear hl2
  refine (law_awake _).mono ?_; rintro e w1 ⟨rfl, hb1⟩
  go_wp2_with fail
  have hf1 := hf.ext hb1
  have hg1 := hg.ext hb1
  refine (law_small _ _ _ _ _ hf1 hn B hB hsz).mono ?_; rintro e w2 ⟨rfl, hb2⟩
  have hf2 := hf1.ext hb2
  have hg2 := hg1.ext hb2
  cases hsm : smallS fs
  · clear hsm
    go_wp2_with fail
    refine (law_awake _).mono ?_; rintro e w3 ⟨rfl, hb3⟩
    go_wp2_with fail
    go_ret
    exact ⟨rfl, (hb1.trans hb2).trans hb3⟩
  · obtain ⟨hs1, hs2⟩ := gets_small hsm
    have hn70 : n ≤ 70 := by have := Hl.out; omega
    have hbs := (small_bsz hs2).mono (show 6000 ≤ 1073741824 by omega)
    clear hsm
    go_wp2_with fail
    refine (law_small _ _ _ _ _ hg2 hn2 B hB hsz2).mono ?_; rintro e w3 ⟨rfl, hb3⟩
    have hf3 := hf2.ext hb3
    have hg3 := hg2.ext hb3
    cases hsm : smallS gs
    · clear hsm
      go_wp2_with fail
      refine (law_awake _).mono ?_; rintro e w4 ⟨rfl, hb4⟩
      go_wp2_with fail
      go_ret
      exact ⟨rfl, ((hb1.trans hb2).trans hb3).trans hb4⟩
    · obtain ⟨hs3, hs4⟩ := gets_small hsm
      have hn70' : n2 ≤ 70 := by have := Hl2.out; omega
      have hbs2 := (small_bsz hs4).mono (show 6000 ≤ 1073741824 by omega)
      clear hsm
      go_wp2_with fail
      refine (ref_Same _ _ _ _ _ _ _ _ _ hf3 hg3 (by omega) (by omega) hbs hbs2).mono ?_; rintro e w4 ⟨rfl, hb4⟩
      have hf4 := hf3.ext hb4
      have hg4 := hg3.ext hb4
      have hsy := sameS_symm fs gs
      have hre := sameS_refl fs
      have Hsy := Lib.hid hsy; have Hre := Lib.hid hre; clear hsy hre
      go_wp2_with fail
      refine (law_Fields _ _ _ _ _ hf4 (by omega)).mono ?_; rintro e w5 ⟨A5, c5, rfl, hf5, hc5, hb5, -⟩
      go_wp2_with fail
      refine (law_Fields _ _ _ _ _ (hg4.ext hb5) (by omega)).mono ?_; rintro e w6 ⟨A6, c6, rfl, hg6, hc6, hb6, -⟩
      go_wp2_with fail
      refine (field_Same _ _ _ _ _ _ _ _ _ (hf5.ext hb6) hg6 (by omega) (by omega) hbs hbs2).mono ?_; rintro e w7 ⟨rfl, hb7⟩
      have hf7 := ((hf4.ext hb5).ext hb6).ext hb7
      have hg7 := ((hg4.ext hb5).ext hb6).ext hb7
      have heq : (sameS fs gs == sameS fs gs) = true := by simp
      go_wp2_with fail
      refine (law_Fields _ _ _ _ _ hg7 (by omega)).mono ?_; rintro e w8 ⟨A8, c8, rfl, hg8, hc8, hb8, -⟩
      go_wp2_with fail
      refine (law_Fields _ _ _ _ _ (hf7.ext hb8) (by omega)).mono ?_; rintro e w9 ⟨A9, c9, rfl, hf9, hc9, hb9, -⟩
      go_wp2_with fail
      refine (field_Same _ _ _ _ _ _ _ _ _ (hg8.ext hb9) hf9 (by omega) (by omega) hbs2 hbs).mono ?_; rintro e w10 ⟨rfl, hb10⟩
      have hf10 := ((hf7.ext hb8).ext hb9).ext hb10
      rw [Hsy.out]
      go_wp2_with fail
      refine (law_Fields _ _ _ _ _ hf10 (by omega)).mono ?_; rintro e w11 ⟨A11, c11, rfl, hf11, hc11, hb11, -⟩
      go_wp2_with fail
      refine (law_Fields _ _ _ _ _ (hf10.ext hb11) (by omega)).mono ?_; rintro e w12 ⟨A12, c12, rfl, hf12, hc12, hb12, -⟩
      go_wp2_with fail
      refine (field_Same _ _ _ _ _ _ _ _ _ (hf11.ext hb12) hf12 (by omega) (by omega) hbs hbs).mono ?_; rintro e w13 ⟨rfl, hb13⟩
      rw [Hre.out]
      go_wp2_with fail
      go_ret
      exact ⟨rfl, (((((((((((hb1.trans hb2).trans hb3).trans hb4).trans hb5).trans hb6).trans hb7).trans hb8).trans hb9).trans hb10).trans hb11).trans hb12).trans hb13⟩
end Go.Proofs.Yteibmmhdlikckaa
