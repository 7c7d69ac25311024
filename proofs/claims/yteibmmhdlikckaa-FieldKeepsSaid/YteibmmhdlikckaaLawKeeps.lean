/- FieldKeeps returns true: the walk. -/
import Derived.Test.YteibmmhdlikckaaLawSets
import Derived.Test.YteibmmhdlikckaaPlain3
namespace Go.Proofs.Yteibmmhdlikckaa
open Go.RowKit

set_option maxRecDepth 100000 in
set_option maxHeartbeats 4000000 in
theorem law_FieldKeeps (A : Option Addr) (n c : Nat) (fs : List Fd) (na nb value : ByteArray) (w : World) (hf : RdF w A n fs)
    (hn : n ≤ 9223372036854775807) (hs : na.size ≤ 140737488355328) (hs2 : nb.size ≤ 140737488355328) (hs3 : value.size ≤ 140737488355328) (B : Nat) (hB : B ≤ 140737488355328) (hsz : Bsz B fs) :
    Calls Try.prog 7 #[.slice A n c, .agg #[.string na, .string nb], .string value] w fun e w' => e = .returned (.bool true) ∧ Ext w w' := by
  have hl := hf.lenF
  have hcA : (w.alloc (.cells #[.string na, .string nb] 50)).cell? ⟨w.heap.size, 0, none⟩ = some (.string na) := by rw [World.cell?_alloc_mark]; rfl
  have hcB : (w.alloc (.cells #[.string na, .string nb] 50)).cell? ⟨w.heap.size, 1, none⟩ = some (.string nb) := by rw [World.cell?_alloc_mark]; rfl
  have hb0 : Ext w (w.alloc (.cells #[.string na, .string nb] 50)) := (Ext.refl w).alloc _
  go_enter Try.func7, Try.ntmps7
  have Hl := Lib.hid hl; clear hl
  go_wp2_with fail
  generalize w.alloc (.cells #[.string na, .string nb] 50) = w0 at *
  generalize w.heap.size = BB at *
  have hf0 := hf.ext hb0
  refine (law_awake _).mono ?_; rintro e w1 ⟨rfl, hb1⟩
  go_wp2_with fail
  have hf1 := hf0.ext hb1
  refine (law_small _ _ _ _ _ hf1 hn B hB hsz).mono ?_; rintro e w2 ⟨rfl, hb2⟩
  have hf2 := hf1.ext hb2
  have hbe2 := hb1.trans hb2
  have hcA2 := hbe2.cell hcA
  have hcB2 := hbe2.cell hcB
  cases hsm : smallS fs
  · clear hsm
    go_wp2_with fail
    refine (law_awake _).mono ?_; rintro e w3 ⟨rfl, hb3⟩
    go_wp2_with fail
    go_ret
    exact ⟨rfl, (hb0.trans hbe2).trans hb3⟩
  · obtain ⟨hs1, hs4⟩ := gets_small hsm
    have hn70 : n ≤ 70 := by have := Hl.out; omega
    have hbs := (small_bsz hs4).mono (show 6000 ≤ 4611686018427387904 by omega)
    clear hsm
    by_cases hnv : na.size + nb.size + value.size ≤ 1000
    · go_wp2_with fail
      refine (law_Fields _ _ _ _ _ hf2 (by omega)).mono ?_; rintro e w3 ⟨A3, c3, rfl, hf3, hc3, hb3, -⟩
      have hcA3 := hb3.cell hcA2
      have hcB3 := hb3.cell hcB2
      have hbe3 := hbe2.trans hb3
      clear hcA hcB hcA2 hcB2 hf0 hf1 hf2
      go_upto_region 4 with fail
      go_cut [8, 9, 10] (fun x y z wx => ∃ A4 n4 c4 A5 c5 A6 n6 c6, x = .slice A4 n4 c4 ∧ y = .slice A5 (n + 1) c5 ∧ z = .slice A6 n6 c6 ∧ RdF wx A4 n4 (setS na value fs) ∧ RdF wx A5 (n + 1) (fs ++ [(lowS na, value)]) ∧ RdF wx A6 n6 (remS fs na) ∧ Ext w3 wx)
      case first =>
        go_region_held3 (fun w' => w'.cell? ⟨BB, 0, none⟩ = some (.string na)) (first | exact hcA3 | exact hx4 | exact hx5 | exact hx6)
          (first
          | (go_at_call 21; refine (field_Set _ _ _ fs na value _ ?_ (by omega) (by omega) hbs).mono ?_; exact hf3; rintro e w4 ⟨A4, n4, c4, rfl, hr4, hc4, hb4, hown4⟩; have hx4 := hb4.cell hcA3)
          | (go_at_call 20; refine (field_Add _ _ _ fs na value _ ?_ (by omega) (by omega)).mono ?_; exact hf3.drew.ext hb4; rintro e w5 ⟨A5, c5, rfl, hr5, hc5, hb5, hown5⟩; have hx5 := hb5.cell hx4)
          | (go_at_call 22; refine (field_Remove _ _ _ fs na _ ?_ (by omega) (by omega) hbs).mono ?_; exact (hf3.drew.ext hb4).ext hb5; rintro e w6 ⟨A6, n6, c6, rfl, hr6, hc6, hb6, hown6⟩; have hx6 := hb6.cell hx5))
        all_goals
          go_wp2_with fail
          go_meet
          exact ⟨_, _, _, _, _, _, _, _, rfl, rfl, rfl, (hr4.ext hb5).ext hb6, hr5.ext hb6, hr6, (((Ext.refl w3).drew.trans hb4).trans hb5).trans hb6⟩
      case rest =>
        obtain ⟨A4, n4, c4, A5, c5, A6, n6, c6, rfl, rfl, rfl, hr4, hr5, hr6, hbc⟩ := hcut
        have hcA4 := hbc.cell hcA3
        have hcB4 := hbc.cell hcB3
        have hf4 := hf3.ext hbc
        have hbe4 := (hb0.trans hbe3).trans hbc
        have hn4 : n4 ≤ 71 := by have := hr4.lenF; have := setS_len na value fs; have := Hl.out; omega
        have hn6 : n6 ≤ 70 := by have := hr6.lenF; have := remS_le fs na; have := Hl.out; omega
        have hz : Bsz 9223372036854775807 fs := hbs.mono (by omega)
        have hz4 : Bsz 9223372036854775807 (setS na value fs) := setS_bsz (by omega) (by omega) hz
        have hz5 : Bsz 9223372036854775807 (fs ++ [(lowS na, value)]) := addS_bsz (by omega) (by omega) hz
        have hz6 : Bsz 9223372036854775807 (remS fs na) := remS_bsz hz
        have e4 := allS_set_same na value fs
        have e5 := allS_add_same fs na value
        have e6 := allS_rem_same fs na
        have hal := allS_len fs na n
        rw [List.take_of_length_le (by have := Hl.out; omega)] at hal
        have Ee4 := Lib.hid e4; have Ee5 := Lib.hid e5; have Ee6 := Lib.hid e6
        clear e4 e5 e6
        have HO : lowS na ≠ lowS nb → allS (setS na value fs) nb = allS fs nb ∧ allS (fs ++ [(lowS na, value)]) nb = allS fs nb ∧ allS (remS fs na) nb = allS fs nb := fun h => ⟨allS_set_other value h fs, allS_add_other fs value h, allS_rem_other fs h⟩
        have HO := Lib.hid HO
        generalize setS na value fs = S4 at *
        generalize hS5 : fs ++ [(lowS na, value)] = S5 at *
        clear hS5
        generalize remS fs na = S6 at *
        go_wp2_with fail
        refine (field_All _ _ _ _ _ _ hf4 (by omega) (by omega) (fun f h => (hz f h).1)).mono ?_; rintro e w5 ⟨A7, n7, c7, rfl, hr7, hc7, hb5⟩
        have hcA5 := hb5.cell hcA4
        have hcB5 := hb5.cell hcB4
        have hn7 : n7 ≤ n := by have := hr7.lenS; omega
        clear hcA3 hcB3 hcA4 hcB4
        go_wp2_with fail
        refine (field_All _ _ _ _ _ _ (hr4.ext hb5) (by omega) (by omega) (fun f h => (hz4 f h).1)).mono ?_; rintro e w6 ⟨A8, n8, c8, rfl, hr8, hc8, hb6⟩
        have hcA6 := hb6.cell hcA5
        have hcB6 := hb6.cell hcB5
        have hn8 := hr8.lenS
        rw [Ee4.out] at hr8 hn8
        have hn8 : n8 ≤ 1 := by simp at hn8; omega
        clear hcA5 hcB5
        go_wp2_with fail
        refine (base_Texts _ _ _ _ _ _ _ [value] _ (hr8.alloc _) (Rd.one _ _ _ rfl) (by omega) (by omega)).mono ?_; rintro e w7 ⟨rfl, hb7⟩
        have hbx7 := ((Ext.refl w6).alloc (Obj.cells #[Value.string value] 9)).trans hb7
        have hcA7 := hbx7.cell hcA6
        have hcB7 := hbx7.cell hcB6
        rw [decide_eq_true rfl]
        clear hcA6 hcB6
        go_wp2_with fail
        have hb57 := (hb5.trans hb6).trans hbx7
        refine (field_All _ _ _ _ _ _ (hr5.ext hb57) (by omega) (by omega) (fun f h => (hz5 f h).1)).mono ?_; rintro e w8 ⟨A9, n9, c9, rfl, hr9, hc9, hb8⟩
        have hcA8 := hb8.cell hcA7
        have hcB8 := hb8.cell hcB7
        have hn9 := hr9.lenS
        rw [Ee5.out] at hr9 hn9
        have hn9 : n9 ≤ n + 1 := by simp at hn9; omega
        have hown : (w8.alloc (.cells #[] 9)).ownsRow w8.heap.size 9 1 (.slice (some ⟨w8.heap.size, 0, none⟩) 0 0) 0 [] := World.ownsRow_made w8 #[] 0 (Nat.le_refl _) (by simp [maxLen]) rfl
        have hr7' := ((hr7.ext hb6).ext hbx7).ext hb8
        have hone := strCells_one (allS fs na)
        have hone2 := strCells_one [value]
        clear hcA7 hcB7
        go_wp2_with (first
          | (at_builtin; refine wpList_appG _ rfl (.tmp 67) (.tmp 68) 32 rfl w8 9 _ 1 16 Try.underlying32 infoStr rfl (by decide) _ _ _ rfl hown _ _ _ _ rfl (hr7'.alloc _) hone ((Ext.refl w8).alloc _) (by omega) (by decide) ?_; intro A10 c10 w9 hown9 hb9 hle9; rw [Nat.zero_add, List.nil_append] at hown9; rw [Nat.zero_add] at hle9 ⊢)
          | (at_builtin; refine wpList_appG _ rfl (.tmp 69) (.tmp 71) 32 rfl w8 9 _ 1 16 Try.underlying32 infoStr rfl (by decide) _ _ _ rfl (hown9.alloc _) _ 1 1 [.string value] rfl (Rd.one _ _ _ (by simp)) hone2 (hb9.alloc _) (by omega) (by decide) ?_; intro A11 c11 w10 hown10 hb10 hle10))
        have hr10 : RdS w10 A11 (n7 + 1) (allS fs na ++ [value]) := by
          have := Rd.of_own hown10
          simp only [RdS, strCells, List.map_append, List.map_cons, List.map_nil]
          exact this
        refine (base_Texts _ _ _ _ _ _ _ _ _ (hr9.ext hb10) hr10 (by omega) (by omega)).mono ?_; rintro e w11 ⟨rfl, hb11⟩
        rw [decide_eq_true rfl]
        have hbx11 := hb10.trans hb11
        have hcA11 := hbx11.cell hcA8
        have hcB11 := hbx11.cell hcB8
        clear hcA8 hcB8 hown hown9 hown10
        go_wp2_with fail
        refine (field_All _ _ _ _ _ _ (((hr6.ext hb57).ext hb8).ext hbx11) (by omega) (by omega) (fun f h => (hz6 f h).1)).mono ?_; rintro e w12 ⟨A12, n12, c12, rfl, hr12, hc12, hb12⟩
        have hn12 := hr12.lenS
        rw [Ee6.out] at hr12 hn12
        obtain rfl : n12 = 0 := by simp at hn12; omega
        have hcA12 := hb12.cell hcA11
        have hcB12 := hb12.cell hcB11
        have hbx12 := ((hb57.trans hb8).trans hbx11).trans hb12
        clear hcA11 hcB11 hn12
        go_wp2_with fail
        have hr7w := (hr7.ext hb6).ext hbx7
        by_cases hln : lowS na = lowS nb
        · have hq : ((lowS na).toList == (lowS nb).toList) = true := eqS_iff.2 hln
          clear hln
          go_region_held3 (fun w' => w'.cell? ⟨BB, 0, none⟩ = some (.string na) ∧ w'.cell? ⟨BB, 1, none⟩ = some (.string nb)) (first | exact ⟨hcA12, hcB12⟩ | exact ⟨hcA13, hcB13⟩ | exact ⟨hcA14, hcB14⟩)
            (first
            | (go_at_call_of 18 (Value.string na); refine (ref_Lower na _ (by omega)).mono ?_; rintro e w13 ⟨rfl, hb13⟩; have hcA13 := hb13.cell hcA12; have hcB13 := hb13.cell hcB12)
            | (go_at_call_of 18 (Value.string nb); refine (ref_Lower nb _ (by omega)).mono ?_; rintro e w14 ⟨rfl, hb14⟩; have hcA14 := hb14.cell hcA13; have hcB14 := hb14.cell hcB13))
          all_goals
            have hb1214 : Ext w12 w14 := ((Ext.refl w12).drew.trans hb13).trans hb14
            go_wp2_with fail
            go_ret
            exact ⟨rfl, (hbe4.trans hbx12).trans hb1214⟩
        · have hq := eqB_no hln
          obtain ⟨o4, o5, o6⟩ := HO.out hln
          have Ho4 := Lib.hid o4; have Ho5 := Lib.hid o5; have Ho6 := Lib.hid o6
          clear o4 o5 o6 hln
          go_region_held3 (fun w' => w'.cell? ⟨BB, 0, none⟩ = some (.string na) ∧ w'.cell? ⟨BB, 1, none⟩ = some (.string nb)) (first | exact ⟨hcA12, hcB12⟩ | exact ⟨hcA13, hcB13⟩ | exact ⟨hcA14, hcB14⟩)
            (first
            | (go_at_call_of 18 (Value.string na); refine (ref_Lower na _ (by omega)).mono ?_; rintro e w13 ⟨rfl, hb13⟩; have hcA13 := hb13.cell hcA12; have hcB13 := hb13.cell hcB12)
            | (go_at_call_of 18 (Value.string nb); refine (ref_Lower nb _ (by omega)).mono ?_; rintro e w14 ⟨rfl, hb14⟩; have hcA14 := hb14.cell hcA13; have hcB14 := hb14.cell hcB13))
          all_goals
            have hb1214 : Ext w12 w14 := ((Ext.refl w12).drew.trans hb13).trans hb14
            have hf14 := (hf4.ext hbx12).ext hb1214
            have hS4 := (hr4.ext hbx12).ext hb1214
            have hS5 := (hr5.ext hbx12).ext hb1214
            have hS6 := (hr6.ext hbx12).ext hb1214
            have hbn := allS_len fs nb n
            rw [List.take_of_length_le (by have := Hl.out; omega)] at hbn
            go_wp2_with fail
            refine (field_All A3 n c3 fs nb w14 hf14 (by omega) (by omega) (fun f h => (hz f h).1)).mono ?_; rintro e x1 ⟨B1, m1, d1, rfl, hm1, hd1, he1⟩
            have hlm1 := hm1.lenS
            have hm1n : m1 ≤ n := by omega
            have hA1 := he1.cell hcA14; have hB1 := he1.cell hcB14
            clear hcA14 hcB14
            go_wp2_with fail
            refine (field_All _ _ _ _ _ _ (hS4.ext he1) (by omega) (by omega) (fun f h => (hz4 f h).1)).mono ?_; rintro e x2 ⟨B2, m2, d2, rfl, hm2, hd2, he2⟩
            have hlm2 := hm2.lenS
            rw [Ho4.out] at hm2 hlm2
            have hm2n : m2 ≤ n := by omega
            have hA2 := he2.cell hA1; have hB2 := he2.cell hB1
            clear hlm1 hlm2 hA1 hB1
            go_wp2_with fail
            refine (base_Texts _ _ _ _ _ _ _ _ _ hm2 (hm1.ext he2) (by omega) (by omega)).mono ?_; rintro e x3 ⟨rfl, he3⟩
            rw [decide_eq_true rfl]
            have hA3 := he3.cell hA2; have hB3 := he3.cell hB2
            have he13 := (he1.trans he2).trans he3
            clear hA2 hB2
            go_wp2_with fail
            refine (field_All _ _ _ _ _ _ (hS5.ext he13) (by omega) (by omega) (fun f h => (hz5 f h).1)).mono ?_; rintro e x4 ⟨B4, m4, d4, rfl, hm4, hd4, he4⟩
            have hlm4 := hm4.lenS
            rw [Ho5.out] at hm4 hlm4
            have hm4n : m4 ≤ n := by omega
            have hA4 := he4.cell hA3; have hB4 := he4.cell hB3
            clear hlm4 hA3 hB3
            go_wp2_with fail
            refine (base_Texts _ _ _ _ _ _ _ _ _ hm4 (((hm1.ext he2).ext he3).ext he4) (by omega) (by omega)).mono ?_; rintro e x5 ⟨rfl, he5⟩
            rw [decide_eq_true rfl]
            have hA5 := he5.cell hA4; have hB5 := he5.cell hB4
            have he15 := (he13.trans he4).trans he5
            clear hA4 hB4
            go_wp2_with fail
            refine (field_All _ _ _ _ _ _ (hS6.ext he15) (by omega) (by omega) (fun f h => (hz6 f h).1)).mono ?_; rintro e x6 ⟨B6, m6, d6, rfl, hm6, hd6, he6⟩
            have hlm6 := hm6.lenS
            rw [Ho6.out] at hm6 hlm6
            have hm6n : m6 ≤ n := by omega
            clear hlm6
            go_wp2_with fail
            refine (base_Texts _ _ _ _ _ _ _ _ _ hm6 (((((hm1.ext he2).ext he3).ext he4).ext he5).ext he6) (by omega) (by omega)).mono ?_; rintro e x7 ⟨rfl, he7⟩
            rw [decide_eq_true rfl]
            go_wp2_with fail
            go_ret
            exact ⟨rfl, ((((hbe4.trans hbx12).trans hb1214).trans he15).trans he6).trans he7⟩
    · go_wp2_with fail
      refine (law_awake _).mono ?_; rintro e w3 ⟨rfl, hb3⟩
      go_wp2_with fail
      go_ret
      exact ⟨rfl, (hb0.trans hbe2).trans hb3⟩
end Go.Proofs.Yteibmmhdlikckaa
