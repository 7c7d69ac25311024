/- The walks of quaysidebase.Clip, Time, Up, Down, quaysideref12.Ppm, quaysideref13.At, and of quaysideref17: what they compute. The walks of PolicyJudges and PolicyErrors: each returns true. Arguments opened: a slice of pairs of strings, a slice of strings, as lists. Plain facts on readings. Arguments opened, with their bulk: a slice of strings, a slice of pairs of strings; the witness of a row that lists variables. Plain facts on readings. Struct arguments opened: directives. Plain facts on readings. A slice of pairs of strings, opened, with its bulk. Plain facts on readings. Struct arguments opened: a stored response, a moment, a response in true time. Plain facts on readings. Listed variables: from a row's condition to what the walks ask of them. No condition. Listed variables: httpdate's tables out of a row's condition. No condition. -/
import Derived.Test.YtocniclkooiggaaGreatDoorJ4
import Derived.ProofKit
import Derived.SizedLaws
import Derived.Deep.Slices
import Derived.Deep.Fields
import Derived.ChangeSame
import Derived.ShutString
import Derived.OpenShut
import Derived.Test.YtocniclkooiggaaGreatDoorRows
import Derived.SliceStrings
import Derived.Lay
import Derived.LaidOnce
import Derived.LaidMore
import Derived.Deep.DeepHandedRow
import Derived.Lib.SmallJoins
import Derived.MakeChecks
import Derived.FnData
set_option linter.unusedSimpArgs false
set_option linter.unusedVariables false
namespace Go.Proofs.YtocniclkooiggaaGreatDoor
open Go.RowKit

set_option maxHeartbeats 1000000 in
theorem base_Clip (n lo hi : Int) (w : World) : Calls Tryz.prog 60 #[.int .i64 n, .int .i64 lo, .int .i64 hi] w fun e w' => e = .returned (.int .i64 (max lo (min n hi))) ∧ w' = w := by
  go_enter Tryz.func60, Tryz.ntmps60
  go_wp2_with fail
  all_goals
    go_ret
    exact ⟨ret_n (by omega), rfl⟩
set_option maxHeartbeats 1000000 in
theorem base_Time (n : Int) (w : World) : Calls Tryz.prog 41 #[.int .i64 n] w fun e w' => e = .returned (.int .i64 (clT n)) ∧ w' = w := by
  have HC := Lib.hid (base_Clip n 0 1099511627776)
  go_enter Tryz.func41, Tryz.ntmps41
  go_wp2_with fail
  refine (HC.out _).mono ?_; rintro e w1 ⟨rfl, rfl⟩
  go_wp2_with fail
  go_ret
  exact ⟨rfl, rfl⟩
set_option maxHeartbeats 1000000 in
theorem ref12_Ppm (n : Int) (w : World) : Calls Tryz.prog 62 #[.int .i64 n] w fun e w' => e = .returned (.int .i64 (clP n)) ∧ w' = w := by
  have HC := Lib.hid (base_Clip n 0 100000)
  go_enter Tryz.func62, Tryz.ntmps62
  go_wp2_with fail
  refine (HC.out _).mono ?_; rintro e w1 ⟨rfl, rfl⟩
  go_wp2_with fail
  go_ret
  exact ⟨rfl, rfl⟩
theorem up_eq {a b : Int} (hb : 1 ≤ b) : (a + b - 1) / b = if a / b * b < a then a / b + 1 else a / b := by
  have h0 := Int.ediv_mul_le a (show b ≠ 0 by omega)
  have h1 := Int.lt_ediv_add_one_mul_self a (show 0 < b by omega)
  have h2 : (a / b + 1) * b = a / b * b + b := by rw [Int.add_mul]; omega
  have h3 : (a / b + 1 + 1) * b = a / b * b + b + b := by rw [Int.add_mul, Int.add_mul]; omega
  generalize a / b = q at *
  generalize hm : q * b = m at *
  split
  · refine Int.le_antisymm (Int.le_of_lt_add_one (Int.ediv_lt_of_lt_mul (by omega) ?_)) ((Int.le_ediv_iff_mul_le (by omega)).2 ?_)
    · rw [h3]; omega
    · rw [h2]; omega
  · refine Int.le_antisymm (Int.le_of_lt_add_one (Int.ediv_lt_of_lt_mul (by omega) ?_)) ((Int.le_ediv_iff_mul_le (by omega)).2 ?_)
    · rw [h2]; omega
    · rw [hm]; omega
set_option maxHeartbeats 2000000 in
theorem base_Up (a b : Int) (w : World) (h0 : 0 ≤ a) (h1 : a ≤ 2305843009213693952) (h2 : 1 ≤ b) (h3 : b ≤ 1099511627776) : Calls Tryz.prog 61 #[.int .i64 a, .int .i64 b] w fun e w' => e = .returned (.int .i64 ((a + b - 1) / b)) ∧ w' = w := by
  have q1 : a.tdiv b = a / b := Int.tdiv_eq_ediv_of_nonneg h0
  have HU := Lib.hid (@up_eq a b h2)
  obtain ⟨q3, q4⟩ := ediv_bd (a := a) (b := b) h0 h2
  have k0 := Int.ediv_mul_le a (show b ≠ 0 by omega)
  have k1 := Int.lt_ediv_add_one_mul_self a (show 0 < b by omega)
  have k2 : (a / b + 1) * b = a / b * b + b := by rw [Int.add_mul]; omega
  have k3 : 0 ≤ a / b * b := Int.mul_nonneg q3 (by omega)
  rw [k2] at k1
  clear k2
  have z : (b == 0) = false := by rw [beq_eq_false_iff_ne]; omega
  have z2 : b ≠ 0 := by omega
  generalize (a + b - 1) / b = U at *
  generalize a / b = Q at *
  have hw : IntKind.i64.wrap (Q * b) = Q * b := IntWalk.i64_in _ (by omega)
  by_cases hm : Q * b < a
  · have HL := Lib.hid (show U = Q + 1 by rw [HU.out, if_pos hm])
    clear HU
    go_enter Tryz.func61, Tryz.ntmps61
    go_wp2_with fail
    go_ret
    exact ⟨ret_n HL.out.symm, rfl⟩
  · have HL := Lib.hid (show U = Q by rw [HU.out, if_neg hm])
    clear HU
    go_enter Tryz.func61, Tryz.ntmps61
    go_wp2_with fail
    go_ret
    exact ⟨ret_n HL.out.symm, rfl⟩
set_option maxHeartbeats 2000000 in
theorem base_Down (a b : Int) (w : World) (h0 : 0 ≤ a) (h1 : a ≤ 2305843009213693952) (h2 : 1 ≤ b) (h3 : b ≤ 1099511627776) : Calls Tryz.prog 63 #[.int .i64 a, .int .i64 b] w fun e w' => e = .returned (.int .i64 (a / b)) ∧ w' = w := by
  have q1 : a.tdiv b = a / b := Int.tdiv_eq_ediv_of_nonneg h0
  have HU := Lib.hid (@up_eq a b h2)
  obtain ⟨q3, q4⟩ := ediv_bd (a := a) (b := b) h0 h2
  have k0 := Int.ediv_mul_le a (show b ≠ 0 by omega)
  have k1 := Int.lt_ediv_add_one_mul_self a (show 0 < b by omega)
  have k2 : (a / b + 1) * b = a / b * b + b := by rw [Int.add_mul]; omega
  have k3 : 0 ≤ a / b * b := Int.mul_nonneg q3 (by omega)
  rw [k2] at k1
  clear k2
  have z : (b == 0) = false := by rw [beq_eq_false_iff_ne]; omega
  have z2 : b ≠ 0 := by omega
  generalize (a + b - 1) / b = U at *
  generalize a / b = Q at *
  have hw : IntKind.i64.wrap (Q * b) = Q * b := IntWalk.i64_in _ (by omega)
  clear HU
  have hm : ¬ a < Q * b := by omega
  go_enter Tryz.func63, Tryz.ntmps63
  go_wp2_with fail
  go_ret
  exact ⟨rfl, rfl⟩
set_option maxHeartbeats 2000000 in
theorem ref13_lowest (d p : Int) (w : World) (h0 : 0 ≤ d) (h1 : d ≤ 1099511627776) : Calls Tryz.prog 43 #[.int .i64 d, .int .i64 p] w fun e w' => e = .returned (.int .i64 (elLo d (clP p))) ∧ w' = w := by
  have HP := Lib.hid (ref12_Ppm p)
  obtain ⟨p0, p1⟩ := clP_bd p
  generalize clP p = P at *
  by_cases hd : d = 0
  · subst hd
    have HL := Lib.hid (show elLo 0 P = 0 from rfl)
    go_enter Tryz.func43, Tryz.ntmps43
    go_wp2_with fail
    go_ret
    exact ⟨ret_n HL.out.symm, rfl⟩
  · have HL := Lib.hid (show elLo d P = (d - 1) * 1000000 / (1000000 + P) + 1 from if_pos (by omega))
    have hz : (d == 0) = false := by rw [beq_eq_false_iff_ne]; exact hd
    have HD := Lib.hid (base_Down ((d - 1) * 1000000) (1000000 + P))
    obtain ⟨q3, q4⟩ := ediv_bd (a := (d - 1) * 1000000) (b := 1000000 + P) (by omega) (by omega)
    generalize (d - 1) * 1000000 / (1000000 + P) = Q at *
    go_enter Tryz.func43, Tryz.ntmps43
    go_wp2_with fail
    refine (HP.out _).mono ?_; rintro e w1 ⟨rfl, rfl⟩
    go_wp2_with fail
    refine (HD.out _ (by omega) (by omega) (by omega) (by omega)).mono ?_; rintro e w1 ⟨rfl, rfl⟩
    go_wp2_with fail
    go_ret
    exact ⟨ret_n HL.out.symm, rfl⟩
set_option maxHeartbeats 2000000 in
theorem ref13_highest (d p : Int) (w : World) (h0 : 0 ≤ d) (h1 : d ≤ 1099511627776) : Calls Tryz.prog 42 #[.int .i64 d, .int .i64 p] w fun e w' => e = .returned (.int .i64 (elHi d (clP p))) ∧ w' = w := by
  have HP := Lib.hid (ref12_Ppm p)
  obtain ⟨p0, p1⟩ := clP_bd p
  generalize clP p = P at *
  have hb0 := elHi_pos h0 p0 p1
  have hb1 := elHi_le h0 p0 p1
  have HU := Lib.hid (base_Up ((d + 1) * 1000000) (1000000 - P))
  have hu : elHi d P = ((d + 1) * 1000000 + (1000000 - P) - 1) / (1000000 - P) - 1 := rfl
  have Hu := Lib.hid (show ((d + 1) * 1000000 + (1000000 - P) - 1) / (1000000 - P) = elHi d P + 1 by omega)
  clear hu
  generalize elHi d P = EH at *
  go_enter Tryz.func42, Tryz.ntmps42
  go_wp2_with fail
  refine (HP.out _).mono ?_; rintro e w1 ⟨rfl, rfl⟩
  go_wp2_with fail
  refine (HU.out _ (by omega) (by omega) (by omega) (by omega)).mono ?_; rintro e w1 ⟨rfl, rfl⟩
  rw [Hu.out]
  go_wp2_with fail
  go_ret
  exact ⟨ret_n (by omega), rfl⟩

def atR : Option (Int × Int) → Value
  | none => .tuple #[.int .i64 0, .int .i64 0, .int .i64 7]
  | some p => .tuple #[.int .i64 p.1, .int .i64 p.2, .int .i64 0]
set_option maxHeartbeats 4000000 in
set_option maxRecDepth 100000 in
theorem ref13_At (se re ag now ppm : Int) (w : World) : Calls Tryz.prog 25 #[.agg #[.int .i64 se, .int .i64 re, .int .i64 ag], .int .i64 now, .int .i64 ppm] w fun e w' => e = .returned (atR (atO ⟨se, re, ag⟩ now ppm)) ∧ Ext w w' := by
  have HS := Lib.hid (base_Time se)
  have HR := Lib.hid (base_Time re)
  have HN := Lib.hid (base_Time now)
  have HO := Lib.hid (show atO ⟨se, re, ag⟩ now ppm = if clT re < clT se ∨ clT now < clT re then none
    else some (elLo (clT now - clT re) (clP ppm), elHi (clT now - clT se) (clP ppm) + exA ag) from rfl)
  have HE1 := Lib.hid (ref13_lowest (clT now - clT re) ppm)
  have HE2 := Lib.hid (ref13_highest (clT now - clT se) ppm)
  obtain ⟨s0, s1⟩ := clT_bd se
  obtain ⟨r0, r1⟩ := clT_bd re
  obtain ⟨n0, n1⟩ := clT_bd now
  obtain ⟨p0, p1⟩ := clP_bd ppm
  have HX := Lib.hid (⟨exA_bd ag, rfl⟩ : (0 ≤ exA ag ∧ exA ag ≤ 2147483648000) ∧ exA ag = if 0 ≤ ag then (min ag 2147483647 + 1) * 1000 else 0)
  generalize atO ⟨se, re, ag⟩ now ppm = O at *
  generalize clT se = S at *
  generalize clT re = R at *
  generalize clT now = N at *
  generalize clP ppm = P at *
  generalize exA ag = X at *
  have HB := Lib.hid (Blk.new w 24 #[.int .i64 se, .int .i64 re, .int .i64 ag])
  have hE := (Ext.refl w).alloc (.cells #[.int .i64 se, .int .i64 re, .int .i64 ag] 24)
  go_enter Tryz.func25, Tryz.ntmps25
  go_wp2_with fail
  generalize w.alloc (.cells #[.int .i64 se, .int .i64 re, .int .i64 ag] 24) = W0 at *
  generalize w.heap.size = b at *
  have HW := Lib.hid hE; clear hE
  refine wp_region_held_drew (S := (fun w' => w'.cell? ⟨b, 0, none⟩ = some (.int .i64 se) ∧ w'.cell? ⟨b, 1, none⟩ = some (.int .i64 re))) (by kernel_rfl) ?_ (fun hHeld => ?_)
  · (try dsimp only); exact ⟨HB.out.cell 0, HB.out.cell 1⟩
  refine wpAnyH_take (i := 0) (oi := { dst := some 12, op := _, type := _, pos := _, after := _, guard := _ }) (v := ?_) rfl (by kernel_rfl) (by kernel_rfl) (by kernel_rfl) (fun _ _ _ h => h) (Or.inl ⟨by rfl, ?_⟩) (by assumption) ?_
  rotate_left
  · (intro w hSw; (try dsimp only at hSw); go_simp; (try with_reducible rfl))
  (try simp only [Act.put, List.setIfInBounds_toArray, List.set_cons_zero, List.set_cons_succ])
  refine wpAnyH_take (i := 1) (oi := { dst := some 13, op := _, type := _, pos := _, after := _, guard := _ }) (v := ?_) rfl (by kernel_rfl) (by kernel_rfl) (by kernel_rfl) (fun _ _ _ h => h) (Or.inl ⟨by rfl, ?_⟩) (by assumption) ?_
  rotate_left
  · (intro w hSw; (try dsimp only at hSw); go_simp; (try with_reducible rfl))
  (try simp only [Act.put, List.setIfInBounds_toArray, List.set_cons_zero, List.set_cons_succ])
  refine wpAnyH_take (i := 3) (oi := { dst := some 15, op := _, type := _, pos := _, after := _, guard := _ }) (v := ?_) rfl (by kernel_rfl) (by kernel_rfl) (by kernel_rfl) (fun _ _ _ h => h) (Or.inl ⟨by rfl, ?_⟩) (by assumption) ?_
  rotate_left
  · (intro w hSw; (try dsimp only at hSw); go_simp; (try with_reducible rfl))
  (try simp only [Act.put, List.setIfInBounds_toArray, List.set_cons_zero, List.set_cons_succ])
  refine wpAnyH_take (i := 4) (oi := { dst := some 16, op := _, type := _, pos := _, after := _, guard := _ }) (v := ?_) rfl (by kernel_rfl) (by kernel_rfl) (by kernel_rfl) (fun _ _ _ h => h) (Or.inl ⟨by rfl, ?_⟩) (by assumption) ?_
  rotate_left
  · (intro w hSw; (try dsimp only at hSw); go_simp; (try with_reducible rfl))
  (try simp only [Act.put, List.setIfInBounds_toArray, List.set_cons_zero, List.set_cons_succ])
  refine wpAnyH_take (i := 6) (oi := { dst := some 18, op := _, type := _, pos := _, after := _, guard := _ }) (v := ?_) rfl (by kernel_rfl) (by kernel_rfl) (by kernel_rfl) (fun _ _ _ h => h) (Or.inl ⟨by rfl, ?_⟩) (by assumption) ?_
  rotate_left
  · (intro w hSw; (try dsimp only at hSw); go_simp; (try with_reducible rfl))
  (try simp only [Act.put, List.setIfInBounds_toArray, List.set_cons_zero, List.set_cons_succ])
  refine wpAnyH_ready (rs := [2]) (by kernel_rfl) (by simp) ?_
  refine AllReadyH.cons (o := { dst := some 14, op := _, type := _, pos := _, after := _, guard := _ }) rfl (fun K hK => ?_) AllReadyH.nil
  go_simp
  refine (HS.out _).mono ?_; rintro e w1 ⟨rfl, rfl⟩
  try go_wp2_with fail
  refine hK.out _ _ ?_ (fun hHeld => ?_)
  · (try dsimp only); exact ⟨HB.out.cell 0, HB.out.cell 1⟩
  clear hK K
  (try simp only [Act.put, List.setIfInBounds_toArray, List.set_cons_zero, List.set_cons_succ])
  refine wpAnyH_ready (rs := [5]) (by kernel_rfl) (by simp) ?_
  refine AllReadyH.cons (o := { dst := some 17, op := _, type := _, pos := _, after := _, guard := _ }) rfl (fun K hK => ?_) AllReadyH.nil
  go_simp
  refine (HR.out _).mono ?_; rintro e w1 ⟨rfl, rfl⟩
  try go_wp2_with fail
  refine hK.out _ _ ?_ (fun hHeld => ?_)
  · (try dsimp only); exact ⟨HB.out.cell 0, HB.out.cell 1⟩
  clear hK K
  (try simp only [Act.put, List.setIfInBounds_toArray, List.set_cons_zero, List.set_cons_succ])
  refine wpAnyH_ready (rs := [7]) (by kernel_rfl) (by simp) ?_
  refine AllReadyH.cons (o := { dst := some 19, op := _, type := _, pos := _, after := _, guard := _ }) rfl (fun K hK => ?_) AllReadyH.nil
  go_simp
  refine (HN.out _).mono ?_; rintro e w1 ⟨rfl, rfl⟩
  try go_wp2_with fail
  refine hK.out _ _ ?_ (fun hHeld => ?_)
  · (try dsimp only); exact ⟨HB.out.cell 0, HB.out.cell 1⟩
  clear hK K
  (try simp only [Act.put, List.setIfInBounds_toArray, List.set_cons_zero, List.set_cons_succ])
  refine wpAnyH_take (i := 8) (oi := { dst := some 9, op := _, type := _, pos := _, after := _, guard := _ }) (v := ?_) rfl (by kernel_rfl) (by kernel_rfl) (by kernel_rfl) (fun _ _ _ h => h) (Or.inl ⟨by rfl, ?_⟩) (by assumption) ?_
  rotate_left
  · (intro w hSw; (try dsimp only at hSw); go_simp; (try with_reducible rfl))
  (try simp only [Act.put, List.setIfInBounds_toArray, List.set_cons_zero, List.set_cons_succ])
  refine wpAnyH_take (i := 9) (oi := { dst := some 10, op := _, type := _, pos := _, after := _, guard := _ }) (v := ?_) rfl (by kernel_rfl) (by kernel_rfl) (by kernel_rfl) (fun _ _ _ h => h) (Or.inl ⟨by rfl, ?_⟩) (by assumption) ?_
  rotate_left
  · (intro w hSw; (try dsimp only at hSw); go_simp; (try with_reducible rfl))
  (try simp only [Act.put, List.setIfInBounds_toArray, List.set_cons_zero, List.set_cons_succ])
  refine wpAnyH_take (i := 10) (oi := { dst := some 1, op := _, type := _, pos := _, after := _, guard := _ }) (v := ?_) rfl (by kernel_rfl) (by kernel_rfl) (by kernel_rfl) (fun _ _ _ h => h) (Or.inl ⟨by rfl, ?_⟩) (by assumption) ?_
  rotate_left
  · (intro w hSw; (try dsimp only at hSw); go_simp; (try with_reducible rfl))
  (try simp only [Act.put, List.setIfInBounds_toArray, List.set_cons_zero, List.set_cons_succ])
  refine wpAnyH_done (by kernel_rfl) ?_ _
  by_cases hc : R < S ∨ N < R
  · have HL := Lib.hid (show O = none by rw [HO.out, if_pos hc])
    clear HO
    by_cases hc2 : R < S
    · go_wp2_with fail
      go_ret3
      exact ⟨ret_t (by rw [HL.out]; rfl), HW.out.drew⟩
    · have hc3 : N < R := by omega
      go_wp2_with fail
      go_ret3
      exact ⟨ret_t (by rw [HL.out]; rfl), HW.out.drew⟩
  · have HL := Lib.hid (show O = some (elLo (N - R) P, elHi (N - S) P + X) by rw [HO.out, if_neg hc])
    have hc1 : ¬ R < S := fun h => hc (.inl h)
    have hc2 : ¬ N < R := fun h => hc (.inr h)
    clear HO hc
    have k1 := elHi_pos (d := N - S) (p := P) (by omega) p0 p1
    have k2 := elHi_le (d := N - S) (p := P) (by omega) p0 p1
    generalize elLo (N - R) P = EL at *
    generalize elHi (N - S) P = EH at *
    go_wp2_with fail
    refine (HE2.out _ (by omega) (by omega)).mono ?_; rintro e w1 ⟨rfl, rfl⟩
    have c2 := HB.out.cell 2
    by_cases ha : 0 ≤ ag
    · by_cases hg : 2147483647 ≤ ag
      · have HX2 := Lib.hid (show X = 2147483648000 by rw [HX.out.2, if_pos ha]; omega)
        go_wp2_with fail
        all_goals
          refine (HE1.out _ (by omega) (by omega)).mono ?_; rintro e w1 ⟨rfl, rfl⟩
          go_wp2_with fail
          go_ret3
          exact ⟨ret_t (by rw [HL.out, HX2.out]; first | rfl | (refine congrArg (fun x => Value.tuple #[.int .i64 EL, .int .i64 x, .int .i64 0]) ?_; omega)), HW.out.drew⟩
      · have HX2 := Lib.hid (show X = (ag + 1) * 1000 by rw [HX.out.2, if_pos ha]; omega)
        go_wp2_with fail
        all_goals
          refine (HE1.out _ (by omega) (by omega)).mono ?_; rintro e w1 ⟨rfl, rfl⟩
          go_wp2_with fail
          go_ret3
          exact ⟨ret_t (by rw [HL.out, HX2.out]; first | rfl | (refine congrArg (fun x => Value.tuple #[.int .i64 EL, .int .i64 x, .int .i64 0]) ?_; omega)), HW.out.drew⟩
    · have HX2 := Lib.hid (show X = 0 by rw [HX.out.2, if_neg ha])
      go_wp2_with fail
      refine (HE1.out _ (by omega) (by omega)).mono ?_; rintro e w1 ⟨rfl, rfl⟩
      go_wp2_with fail
      go_ret3
      exact ⟨ret_t (by rw [HL.out, HX2.out]; first | rfl | (unfold atR; simp)), HW.out.drew⟩

def blS (hi s m : Int) : Bool := decide (s < 0 ∨ hi < 1000 * s + m)
set_option maxHeartbeats 1000000 in
theorem ref17_below (hi s m : Int) (w : World) (h0 : -1 ≤ s) (h1 : s ≤ 2147483647) (h2 : -1000 ≤ m) (h3 : m ≤ 2147483647000) : Calls Tryz.prog 26 #[.int .i64 hi, .int .i64 s, .int .i64 m] w fun e w' => e = .returned (.bool (blS hi s m)) ∧ w' = w := by
  by_cases hs : s < 0
  · have HL := Lib.hid (show blS hi s m = true from decide_eq_true (.inl hs))
    go_enter Tryz.func26, Tryz.ntmps26
    go_wp2_with fail
    go_ret
    exact ⟨ret_b HL.out.symm, rfl⟩
  · by_cases hh : hi < 1000 * s + m
    · have HL := Lib.hid (show blS hi s m = true from decide_eq_true (.inr hh))
      go_enter Tryz.func26, Tryz.ntmps26
      go_wp2_with fail
      go_ret
      exact ⟨ret_b HL.out.symm, rfl⟩
    · have HL := Lib.hid (show blS hi s m = false from decide_eq_false (by omega))
      go_enter Tryz.func26, Tryz.ntmps26
      go_wp2_with fail
      go_ret
      exact ⟨ret_b HL.out.symm, rfl⟩

set_option maxHeartbeats 16000000 in
set_option maxRecDepth 100000 in
theorem ref17_Judge (st : Int) (A : Option Addr) (n c : Nat) (fs : List Fd) (se re ag : Int) (hv : Bool) (q : D) (now ppm : Int) (w : World) (hf : RdF w A n fs) (hn : n ≤ 1073741824) (hsz : Bsz 1048576 fs) :
    Calls Tryz.prog 10 #[.agg #[.int .i64 st, .slice A n c, .int .i64 se, .int .i64 re, .int .i64 ag, .bool hv], .agg (dArr q), .int .i64 now, .int .i64 ppm] w fun e w' => e = .returned (.int .i64 (jdS ⟨st, fs, ⟨se, re, ag⟩, hv⟩ q now ppm)) ∧ Ext w w' := by
  have HP := Lib.hid (fun w' (h : Ext w w') => ref_Directives A n c fs w' (hf.ext h) hn hsz)
  have HOf := Lib.hid (fun w' (h : Ext w w') => ref14_Of st A n c fs w' (hf.ext h) hn hsz)
  have HAl := Lib.hid (fun w' (h : Ext w w') => ref_Allowance A n c fs w' (hf.ext h) hn hsz)
  have HAt := Lib.hid (ref13_At se re ag now ppm)
  have Hbd := Lib.hid (fun p (h : atO ⟨se, re, ag⟩ now ppm = some p) => atO_bd h)
  have HJ := Lib.hid (show jdS ⟨st, fs, ⟨se, re, ag⟩, hv⟩ q now ppm = if ((atO ⟨se, re, ag⟩ now ppm).isSome && !(ccD fs).b1 && !q.b1) = true ∧ fvS (hiS ⟨st, fs, ⟨se, re, ag⟩, hv⟩ now ppm) (ofS st fs).1 (alwS fs).1 (nmT q.n0) (nmT q.n5) (nmT q.n4) (ccD fs).b4 (decide (0 ≤ (ccD fs).n1)) ≠ 0 then fvS (hiS ⟨st, fs, ⟨se, re, ag⟩, hv⟩ now ppm) (ofS st fs).1 (alwS fs).1 (nmT q.n0) (nmT q.n5) (nmT q.n4) (ccD fs).b4 (decide (0 ≤ (ccD fs).n1)) else if hv then 4 else 5 from vd_fv ..)
  have Hhi := Lib.hid (show hiS ⟨st, fs, ⟨se, re, ag⟩, hv⟩ now ppm = match atO ⟨se, re, ag⟩ now ppm with | some p => p.2 | none => 0 from rfl)
  obtain ⟨l0, l1, _⟩ := ofS_bd st fs
  obtain ⟨a0, a1, _, _⟩ := alwS_bd fs
  have nb : ∀ x : Int, -1 ≤ nmT x ∧ nmT x ≤ 2147483647 := fun x => by unfold nmT; omega
  obtain ⟨x0, x1⟩ := nb q.n0
  obtain ⟨y0, y1⟩ := nb q.n5
  obtain ⟨z0, z1⟩ := nb q.n4
  clear nb
  generalize jdS ⟨st, fs, ⟨se, re, ag⟩, hv⟩ q now ppm = J at *
  generalize hiS ⟨st, fs, ⟨se, re, ag⟩, hv⟩ now ppm = hi at *
  generalize atO ⟨se, re, ag⟩ now ppm = O at *
  generalize ofS st fs = OF at *
  generalize alwS fs = AL at *
  obtain ⟨life, kd⟩ := OF
  obtain ⟨wh, on⟩ := AL
  simp only [] at l0 l1 a0 a1 HJ
  generalize ccD fs = D at *
  have HBs := Lib.hid ((Blk.new w 26 #[.int .i64 st, .slice A n c, .int .i64 se, .int .i64 re, .int .i64 ag, .bool hv]).alloc (.cells (dArr q) 28))
  have HBq := Lib.hid (show Blk ((w.alloc (.cells #[.int .i64 st, .slice A n c, .int .i64 se, .int .i64 re, .int .i64 ag, .bool hv] 26)).alloc (.cells (dArr q) 28)) (w.heap.size + 1) 28 (dArr q) by
    have h := Blk.new (w.alloc (.cells #[.int .i64 st, .slice A n c, .int .i64 se, .int .i64 re, .int .i64 ag, .bool hv] 26)) 28 (dArr q)
    rw [World.size_alloc] at h; exact h)
  have HE := Lib.hid (((Ext.refl w).alloc (.cells #[.int .i64 st, .slice A n c, .int .i64 se, .int .i64 re, .int .i64 ag, .bool hv] 26)).alloc (.cells (dArr q) 28))
  go_enter Tryz.func10, Tryz.ntmps10
  go_wp2_with (first
    | (refine wpList_loadB rfl 28 (.tmp 5) rfl (w.heap.size + 1) rfl 28 _ HBq.out _ Tryz.underlying28 infoD ?_))
  generalize (w.alloc (.cells #[.int .i64 st, .slice A n c, .int .i64 se, .int .i64 re, .int .i64 ag, .bool hv] 26)).alloc (.cells (dArr q) 28) = W0 at *
  generalize w.heap.size = b at *
  refine (ref_Normal q _).mono ?_; rintro e w1 ⟨rfl, hb1⟩
  go_wp2_with (first
    | (refine wpList_storeB rfl 28 (.tmp 9) (.tmp 20) rfl rfl w1.heap.size _ rfl rfl 28 _ (Blk.new w1 _ _) infoD rfl (dArr_one (nmD q)) ?_; intro w2 hN2 hX2; have hb2 := (hb1.alloc (.cells (dArr zeroD) 28)).growB hX2 hb1.size; have s1 := (HBs.out.ext hb2).cell 1))
  have HE2 := Lib.hid hb2
  have HN2 := Lib.hid hN2
  clear hb1 hb2 hN2 hX2
  generalize w1.heap.size = gq at *
  refine (HP.out _ (HE.out.trans HE2.out)).mono ?_; rintro e w3 ⟨rfl, hb3⟩
  have HE3 := Lib.hid (HE2.out.trans hb3)
  have HN3 := Lib.hid (HN2.out.ext hb3)
  clear hb3 s1
  go_wp2_with (first
    | (refine wpList_storeB rfl 28 (.tmp 10) (.tmp 23) rfl rfl w3.heap.size _ rfl rfl 28 _ (Blk.new w3 _ _) infoD rfl (dArr_one D) ?_; intro w4 hN4 hX4; have hb4 := ((Ext.refl w3).alloc (.cells (dArr zeroD) 28)).growB hX4 (Nat.le_refl _); have s0 := (HBs.out.ext (HE3.out.trans hb4)).cell 0; have s1 := (HBs.out.ext (HE3.out.trans hb4)).cell 1))
  have HE4 := Lib.hid (HE3.out.trans hb4)
  have HQ4 := Lib.hid (HN3.out.ext hb4)
  have HD4 := Lib.hid hN4
  clear hb4 hN4 hX4 HN2 HN3 HE2 HE3
  generalize w3.heap.size = gd at *
  refine (HOf.out _ (HE.out.trans HE4.out)).mono ?_; rintro e w5 ⟨rfl, hb5⟩
  have s1 := hb5.cell s1
  have h5 := HE4.out.trans hb5
  rw [show pairV (life, kd) = .tuple #[.int .i64 life, .int .i64 kd] from rfl]
  go_wp2_with fail
  refine (HAl.out _ (HE.out.trans h5)).mono ?_; rintro e w6 ⟨rfl, hb6⟩
  have h6 := h5.trans hb6
  clear s0 s1
  have s2 := (HBs.out.ext h6).cell 2
  have s3 := (HBs.out.ext h6).cell 3
  have s4 := (HBs.out.ext h6).cell 4
  rw [show pairV (wh, on) = .tuple #[.int .i64 wh, .int .i64 on] from rfl]
  go_wp2_with fail
  refine (HAt.out _).mono ?_; rintro e w7 ⟨rfl, hb7⟩
  have h7 := h6.trans hb7
  have h47 := (hb5.trans hb6).trans hb7
  clear s2 s3 s4
  have s5 := (HBs.out.ext h7).cell 5
  have d1 : w7.cell? ⟨gd, 1, none⟩ = some (.bool D.b1) := (HD4.out.ext h47).cell 1
  have d4 : w7.cell? ⟨gd, 4, none⟩ = some (.bool D.b4) := (HD4.out.ext h47).cell 4
  have d7 : w7.cell? ⟨gd, 7, none⟩ = some (.int .i64 D.n1) := (HD4.out.ext h47).cell 7
  have q1 : w7.cell? ⟨gq, 1, none⟩ = some (.bool q.b1) := (HQ4.out.ext h47).cell 1
  have q6 : w7.cell? ⟨gq, 6, none⟩ = some (.int .i64 (nmT q.n0)) := (HQ4.out.ext h47).cell 6
  have q10 : w7.cell? ⟨gq, 10, none⟩ = some (.int .i64 (nmT q.n4)) := (HQ4.out.ext h47).cell 10
  have q11 : w7.cell? ⟨gq, 11, none⟩ = some (.int .i64 (nmT q.n5)) := (HQ4.out.ext h47).cell 11
  have HH := Lib.hid (HE.out.trans h7)
  clear hb5 h5 hb6 h6 hb7 h7 h47
  cases O with
  | none =>
    have HL := Lib.hid (show J = if hv then 4 else 5 by rw [HJ.out, if_neg (by simp)])
    unfold atR
    cases hv
    all_goals
      go_wp2_with fail
      go_ret
      exact ⟨ret_n HL.out.symm, HH.out⟩
  | some p =>
    obtain ⟨lo, hi2⟩ := p
    obtain ⟨_, _, u0, u1⟩ := Hbd.out _ rfl
    obtain rfl : hi = hi2 := Hhi.out
    simp only [] at u0 u1
    unfold atR
    cases hdb : D.b1
    rotate_left
    · have HL := Lib.hid (show J = if hv then 4 else 5 by rw [HJ.out, if_neg (by simp [hdb])])
      rw [hdb] at d1
      cases hv
      all_goals
        go_wp2_with fail
        go_ret
        exact ⟨ret_n HL.out.symm, HH.out⟩
    rw [hdb] at d1
    cases hqb : q.b1
    rotate_left
    · have HL := Lib.hid (show J = if hv then 4 else 5 by rw [HJ.out, if_neg (by simp [hqb])])
      rw [hqb] at q1
      cases hv
      all_goals
        go_wp2_with fail
        go_ret
        exact ⟨ret_n HL.out.symm, HH.out⟩
    rw [hqb] at q1
    have HJ2 := Lib.hid (show J = if fvS hi life wh (nmT q.n0) (nmT q.n5) (nmT q.n4) D.b4 (decide (0 ≤ D.n1)) ≠ 0 then fvS hi life wh (nmT q.n0) (nmT q.n5) (nmT q.n4) D.b4 (decide (0 ≤ D.n1)) else if hv then 4 else 5 by
      rw [HJ.out, hdb, hqb]; simp)
    clear HJ HP HOf HAl HAt Hbd Hhi
    have HB1 := Lib.hid (fun w => ref17_below hi (nmT q.n0) 0 w x0 x1 (by decide) (by decide))
    have HB2 := Lib.hid (fun w (h : 0 ≤ nmT q.n4) => ref17_below hi (nmT q.n0) (1000 * nmT q.n4) w x0 x1 (by omega) (by omega))
    generalize nmT q.n0 = M0 at *
    generalize nmT q.n5 = M5 at *
    generalize nmT q.n4 = M4 at *
    by_cases h1p : hi < life
    · cases hX1 : blS hi M0 0
      · have pX1 := of_decide_eq_false hX1
        have Ap : ¬ M0 < 0 := by omega
        by_cases Sp : 0 ≤ M4
        · by_cases Fp : M5 < 0
          · cases hmr : D.b4
            · (try rw [hmr] at d4)
              by_cases sap : 0 ≤ D.n1
              · cases hv
                · skip
                  have h4p : hi < life + wh := by omega
                  have h5p : hi < life + 1000 * M4 := by omega
                  have HL := Lib.hid (show J = 5 by rw [HJ2.out, show fvS hi life wh M0 M5 M4 D.b4 (decide (0 ≤ D.n1)) = 0 from fv0 (by omega) (by omega) (.inr (.inr (decide_eq_true sap)))]; rfl)
                  have hz := decide_eq_false (show ¬ D.n1 < 0 by omega)
                  go_wp2_with fail
                  refine (HB1.out _).mono ?_; rintro e w8 ⟨rfl, rfl⟩
                  rw [hX1]
                  go_wp2_with fail
                  go_ret
                  exact ⟨ret_n HL.out.symm, HH.out⟩
                · skip
                  have h4p : hi < life + wh := by omega
                  have h5p : hi < life + 1000 * M4 := by omega
                  have HL := Lib.hid (show J = 4 by rw [HJ2.out, show fvS hi life wh M0 M5 M4 D.b4 (decide (0 ≤ D.n1)) = 0 from fv0 (by omega) (by omega) (.inr (.inr (decide_eq_true sap)))]; rfl)
                  have hz := decide_eq_false (show ¬ D.n1 < 0 by omega)
                  go_wp2_with fail
                  refine (HB1.out _).mono ?_; rintro e w8 ⟨rfl, rfl⟩
                  rw [hX1]
                  go_wp2_with fail
                  go_ret
                  exact ⟨ret_n HL.out.symm, HH.out⟩
              · cases hX2 : blS hi M0 (1000 * M4)
                · have pX2 := of_decide_eq_false hX2
                  cases hv
                  · skip
                    have h4p : hi < life + wh := by omega
                    have h5p : hi < life + 1000 * M4 := by omega
                    have HL := Lib.hid (show J = 5 by rw [HJ2.out, show fvS hi life wh M0 M5 M4 D.b4 (decide (0 ≤ D.n1)) = 0 from fv0 (by omega) (by omega) (.inl (by omega))]; rfl)
                    have hz := decide_eq_true (show D.n1 < 0 by omega)
                    go_wp2_with fail
                    refine (HB1.out _).mono ?_; rintro e w8 ⟨rfl, rfl⟩
                    rw [hX1]
                    go_wp2_with fail
                    refine (HB2.out _ Sp).mono ?_; rintro e w8 ⟨rfl, rfl⟩
                    rw [hX2]
                    go_wp2_with fail
                    go_ret
                    exact ⟨ret_n HL.out.symm, HH.out⟩
                  · skip
                    have h4p : hi < life + wh := by omega
                    have h5p : hi < life + 1000 * M4 := by omega
                    have HL := Lib.hid (show J = 4 by rw [HJ2.out, show fvS hi life wh M0 M5 M4 D.b4 (decide (0 ≤ D.n1)) = 0 from fv0 (by omega) (by omega) (.inl (by omega))]; rfl)
                    have hz := decide_eq_true (show D.n1 < 0 by omega)
                    go_wp2_with fail
                    refine (HB1.out _).mono ?_; rintro e w8 ⟨rfl, rfl⟩
                    rw [hX1]
                    go_wp2_with fail
                    refine (HB2.out _ Sp).mono ?_; rintro e w8 ⟨rfl, rfl⟩
                    rw [hX2]
                    go_wp2_with fail
                    go_ret
                    exact ⟨ret_n HL.out.symm, HH.out⟩
                · have pX2 := of_decide_eq_true hX2
                  have h4p : hi < life + wh := by omega
                  have h5p : hi < life + 1000 * M4 := by omega
                  have HL := Lib.hid (show J = 3 by rw [HJ2.out, show fvS hi life wh M0 M5 M4 D.b4 (decide (0 ≤ D.n1)) = 3 from fv3 (by omega) (by omega) (by omega) hmr (decide_eq_false sap) (by omega)]; rfl)
                  have hz := decide_eq_true (show D.n1 < 0 by omega)
                  go_wp2_with fail
                  refine (HB1.out _).mono ?_; rintro e w8 ⟨rfl, rfl⟩
                  rw [hX1]
                  go_wp2_with fail
                  refine (HB2.out _ Sp).mono ?_; rintro e w8 ⟨rfl, rfl⟩
                  rw [hX2]
                  go_wp2_with fail
                  go_ret
                  exact ⟨ret_n HL.out.symm, HH.out⟩
            · (try rw [hmr] at d4)
              cases hv
              · skip
                have h4p : hi < life + wh := by omega
                have h5p : hi < life + 1000 * M4 := by omega
                have HL := Lib.hid (show J = 5 by rw [HJ2.out, show fvS hi life wh M0 M5 M4 D.b4 (decide (0 ≤ D.n1)) = 0 from fv0 (by omega) (by omega) (.inr (.inl hmr))]; rfl)
                go_wp2_with fail
                refine (HB1.out _).mono ?_; rintro e w8 ⟨rfl, rfl⟩
                rw [hX1]
                go_wp2_with fail
                go_ret
                exact ⟨ret_n HL.out.symm, HH.out⟩
              · skip
                have h4p : hi < life + wh := by omega
                have h5p : hi < life + 1000 * M4 := by omega
                have HL := Lib.hid (show J = 4 by rw [HJ2.out, show fvS hi life wh M0 M5 M4 D.b4 (decide (0 ≤ D.n1)) = 0 from fv0 (by omega) (by omega) (.inr (.inl hmr))]; rfl)
                go_wp2_with fail
                refine (HB1.out _).mono ?_; rintro e w8 ⟨rfl, rfl⟩
                rw [hX1]
                go_wp2_with fail
                go_ret
                exact ⟨ret_n HL.out.symm, HH.out⟩
          · cases hv
            · skip
              have h4p : hi < life + wh := by omega
              have h5p : hi < life + 1000 * M4 := by omega
              have HL := Lib.hid (show J = 5 by rw [HJ2.out, show fvS hi life wh M0 M5 M4 D.b4 (decide (0 ≤ D.n1)) = 0 from fv0 (by omega) (by omega) (.inl (by omega))]; rfl)
              go_wp2_with fail
              refine (HB1.out _).mono ?_; rintro e w8 ⟨rfl, rfl⟩
              rw [hX1]
              go_wp2_with fail
              go_ret
              exact ⟨ret_n HL.out.symm, HH.out⟩
            · skip
              have h4p : hi < life + wh := by omega
              have h5p : hi < life + 1000 * M4 := by omega
              have HL := Lib.hid (show J = 4 by rw [HJ2.out, show fvS hi life wh M0 M5 M4 D.b4 (decide (0 ≤ D.n1)) = 0 from fv0 (by omega) (by omega) (.inl (by omega))]; rfl)
              go_wp2_with fail
              refine (HB1.out _).mono ?_; rintro e w8 ⟨rfl, rfl⟩
              rw [hX1]
              go_wp2_with fail
              go_ret
              exact ⟨ret_n HL.out.symm, HH.out⟩
        · cases hv
          · skip
            have h4p : hi < life + wh := by omega
            have HL := Lib.hid (show J = 5 by rw [HJ2.out, show fvS hi life wh M0 M5 M4 D.b4 (decide (0 ≤ D.n1)) = 0 from fv0 (by omega) (by omega) (.inl (by omega))]; rfl)
            go_wp2_with fail
            refine (HB1.out _).mono ?_; rintro e w8 ⟨rfl, rfl⟩
            rw [hX1]
            go_wp2_with fail
            go_ret
            exact ⟨ret_n HL.out.symm, HH.out⟩
          · skip
            have h4p : hi < life + wh := by omega
            have HL := Lib.hid (show J = 4 by rw [HJ2.out, show fvS hi life wh M0 M5 M4 D.b4 (decide (0 ≤ D.n1)) = 0 from fv0 (by omega) (by omega) (.inl (by omega))]; rfl)
            go_wp2_with fail
            refine (HB1.out _).mono ?_; rintro e w8 ⟨rfl, rfl⟩
            rw [hX1]
            go_wp2_with fail
            go_ret
            exact ⟨ret_n HL.out.symm, HH.out⟩
      · have pX1 := of_decide_eq_true hX1
        by_cases Fp : M5 < 0
        · have h4p : hi < life + wh := by omega
          have HL := Lib.hid (show J = 1 by rw [HJ2.out, show fvS hi life wh M0 M5 M4 D.b4 (decide (0 ≤ D.n1)) = 1 from fv1 (by omega)]; rfl)
          go_wp2_with fail
          refine (HB1.out _).mono ?_; rintro e w8 ⟨rfl, rfl⟩
          rw [hX1]
          go_wp2_with fail
          go_ret
          exact ⟨ret_n HL.out.symm, HH.out⟩
        · by_cases h3p : hi + 1000 * M5 < life
          · have h4p : hi < life + wh := by omega
            have HL := Lib.hid (show J = 1 by rw [HJ2.out, show fvS hi life wh M0 M5 M4 D.b4 (decide (0 ≤ D.n1)) = 1 from fv1 (by omega)]; rfl)
            go_wp2_with fail
            refine (HB1.out _).mono ?_; rintro e w8 ⟨rfl, rfl⟩
            rw [hX1]
            go_wp2_with fail
            go_ret
            exact ⟨ret_n HL.out.symm, HH.out⟩
          · by_cases Ap : M0 < 0
            · by_cases Sp : 0 ≤ M4
              · cases hv
                · skip
                  have h4p : hi < life + wh := by omega
                  have h5p : hi < life + 1000 * M4 := by omega
                  have HL := Lib.hid (show J = 5 by rw [HJ2.out, show fvS hi life wh M0 M5 M4 D.b4 (decide (0 ≤ D.n1)) = 0 from fv0 (by omega) (by omega) (.inl (by omega))]; rfl)
                  go_wp2_with fail
                  refine (HB1.out _).mono ?_; rintro e w8 ⟨rfl, rfl⟩
                  rw [hX1]
                  go_wp2_with fail
                  go_ret
                  exact ⟨ret_n HL.out.symm, HH.out⟩
                · skip
                  have h4p : hi < life + wh := by omega
                  have h5p : hi < life + 1000 * M4 := by omega
                  have HL := Lib.hid (show J = 4 by rw [HJ2.out, show fvS hi life wh M0 M5 M4 D.b4 (decide (0 ≤ D.n1)) = 0 from fv0 (by omega) (by omega) (.inl (by omega))]; rfl)
                  go_wp2_with fail
                  refine (HB1.out _).mono ?_; rintro e w8 ⟨rfl, rfl⟩
                  rw [hX1]
                  go_wp2_with fail
                  go_ret
                  exact ⟨ret_n HL.out.symm, HH.out⟩
              · cases hv
                · skip
                  have h4p : hi < life + wh := by omega
                  have HL := Lib.hid (show J = 5 by rw [HJ2.out, show fvS hi life wh M0 M5 M4 D.b4 (decide (0 ≤ D.n1)) = 0 from fv0 (by omega) (by omega) (.inl (by omega))]; rfl)
                  go_wp2_with fail
                  refine (HB1.out _).mono ?_; rintro e w8 ⟨rfl, rfl⟩
                  rw [hX1]
                  go_wp2_with fail
                  go_ret
                  exact ⟨ret_n HL.out.symm, HH.out⟩
                · skip
                  have h4p : hi < life + wh := by omega
                  have HL := Lib.hid (show J = 4 by rw [HJ2.out, show fvS hi life wh M0 M5 M4 D.b4 (decide (0 ≤ D.n1)) = 0 from fv0 (by omega) (by omega) (.inl (by omega))]; rfl)
                  go_wp2_with fail
                  refine (HB1.out _).mono ?_; rintro e w8 ⟨rfl, rfl⟩
                  rw [hX1]
                  go_wp2_with fail
                  go_ret
                  exact ⟨ret_n HL.out.symm, HH.out⟩
            · by_cases Sp : 0 ≤ M4
              · cases hv
                · skip
                  have h4p : hi < life + wh := by omega
                  have h5p : hi < life + 1000 * M4 := by omega
                  have HL := Lib.hid (show J = 5 by rw [HJ2.out, show fvS hi life wh M0 M5 M4 D.b4 (decide (0 ≤ D.n1)) = 0 from fv0 (by omega) (by omega) (.inl (by omega))]; rfl)
                  go_wp2_with fail
                  refine (HB1.out _).mono ?_; rintro e w8 ⟨rfl, rfl⟩
                  rw [hX1]
                  go_wp2_with fail
                  go_ret
                  exact ⟨ret_n HL.out.symm, HH.out⟩
                · skip
                  have h4p : hi < life + wh := by omega
                  have h5p : hi < life + 1000 * M4 := by omega
                  have HL := Lib.hid (show J = 4 by rw [HJ2.out, show fvS hi life wh M0 M5 M4 D.b4 (decide (0 ≤ D.n1)) = 0 from fv0 (by omega) (by omega) (.inl (by omega))]; rfl)
                  go_wp2_with fail
                  refine (HB1.out _).mono ?_; rintro e w8 ⟨rfl, rfl⟩
                  rw [hX1]
                  go_wp2_with fail
                  go_ret
                  exact ⟨ret_n HL.out.symm, HH.out⟩
              · cases hv
                · skip
                  have h4p : hi < life + wh := by omega
                  have HL := Lib.hid (show J = 5 by rw [HJ2.out, show fvS hi life wh M0 M5 M4 D.b4 (decide (0 ≤ D.n1)) = 0 from fv0 (by omega) (by omega) (.inl (by omega))]; rfl)
                  go_wp2_with fail
                  refine (HB1.out _).mono ?_; rintro e w8 ⟨rfl, rfl⟩
                  rw [hX1]
                  go_wp2_with fail
                  go_ret
                  exact ⟨ret_n HL.out.symm, HH.out⟩
                · skip
                  have h4p : hi < life + wh := by omega
                  have HL := Lib.hid (show J = 4 by rw [HJ2.out, show fvS hi life wh M0 M5 M4 D.b4 (decide (0 ≤ D.n1)) = 0 from fv0 (by omega) (by omega) (.inl (by omega))]; rfl)
                  go_wp2_with fail
                  refine (HB1.out _).mono ?_; rintro e w8 ⟨rfl, rfl⟩
                  rw [hX1]
                  go_wp2_with fail
                  go_ret
                  exact ⟨ret_n HL.out.symm, HH.out⟩
    · by_cases h4p : hi < life + wh
      · by_cases Ap : M0 < 0
        · by_cases Fp : M5 < 0
          · have HL := Lib.hid (show J = 2 by rw [HJ2.out, show fvS hi life wh M0 M5 M4 D.b4 (decide (0 ≤ D.n1)) = 2 from fv2 (by omega) (by omega)]; rfl)
            go_wp2_with fail
            go_ret
            exact ⟨ret_n HL.out.symm, HH.out⟩
          · by_cases Sp : 0 ≤ M4
            · cases hv
              · skip
                have HL := Lib.hid (show J = 5 by rw [HJ2.out, show fvS hi life wh M0 M5 M4 D.b4 (decide (0 ≤ D.n1)) = 0 from fv0 (by omega) (by omega) (.inl (by omega))]; rfl)
                go_wp2_with fail
                go_ret
                exact ⟨ret_n HL.out.symm, HH.out⟩
              · skip
                have HL := Lib.hid (show J = 4 by rw [HJ2.out, show fvS hi life wh M0 M5 M4 D.b4 (decide (0 ≤ D.n1)) = 0 from fv0 (by omega) (by omega) (.inl (by omega))]; rfl)
                go_wp2_with fail
                go_ret
                exact ⟨ret_n HL.out.symm, HH.out⟩
            · cases hv
              · skip
                have HL := Lib.hid (show J = 5 by rw [HJ2.out, show fvS hi life wh M0 M5 M4 D.b4 (decide (0 ≤ D.n1)) = 0 from fv0 (by omega) (by omega) (.inl (by omega))]; rfl)
                go_wp2_with fail
                go_ret
                exact ⟨ret_n HL.out.symm, HH.out⟩
              · skip
                have HL := Lib.hid (show J = 4 by rw [HJ2.out, show fvS hi life wh M0 M5 M4 D.b4 (decide (0 ≤ D.n1)) = 0 from fv0 (by omega) (by omega) (.inl (by omega))]; rfl)
                go_wp2_with fail
                go_ret
                exact ⟨ret_n HL.out.symm, HH.out⟩
        · by_cases Sp : 0 ≤ M4
          · by_cases Fp : M5 < 0
            · cases hmr : D.b4
              · (try rw [hmr] at d4)
                by_cases sap : 0 ≤ D.n1
                · cases hv
                  · skip
                    have HL := Lib.hid (show J = 5 by rw [HJ2.out, show fvS hi life wh M0 M5 M4 D.b4 (decide (0 ≤ D.n1)) = 0 from fv0 (by omega) (by omega) (.inr (.inr (decide_eq_true sap)))]; rfl)
                    have hz := decide_eq_false (show ¬ D.n1 < 0 by omega)
                    go_wp2_with fail
                    go_ret
                    exact ⟨ret_n HL.out.symm, HH.out⟩
                  · skip
                    have HL := Lib.hid (show J = 4 by rw [HJ2.out, show fvS hi life wh M0 M5 M4 D.b4 (decide (0 ≤ D.n1)) = 0 from fv0 (by omega) (by omega) (.inr (.inr (decide_eq_true sap)))]; rfl)
                    have hz := decide_eq_false (show ¬ D.n1 < 0 by omega)
                    go_wp2_with fail
                    go_ret
                    exact ⟨ret_n HL.out.symm, HH.out⟩
                · by_cases h5p : hi < life + 1000 * M4
                  · cases hX2 : blS hi M0 (1000 * M4)
                    · have pX2 := of_decide_eq_false hX2
                      cases hv
                      · skip
                        have HL := Lib.hid (show J = 5 by rw [HJ2.out, show fvS hi life wh M0 M5 M4 D.b4 (decide (0 ≤ D.n1)) = 0 from fv0 (by omega) (by omega) (.inl (by omega))]; rfl)
                        have hz := decide_eq_true (show D.n1 < 0 by omega)
                        go_wp2_with fail
                        refine (HB2.out _ Sp).mono ?_; rintro e w8 ⟨rfl, rfl⟩
                        rw [hX2]
                        go_wp2_with fail
                        go_ret
                        exact ⟨ret_n HL.out.symm, HH.out⟩
                      · skip
                        have HL := Lib.hid (show J = 4 by rw [HJ2.out, show fvS hi life wh M0 M5 M4 D.b4 (decide (0 ≤ D.n1)) = 0 from fv0 (by omega) (by omega) (.inl (by omega))]; rfl)
                        have hz := decide_eq_true (show D.n1 < 0 by omega)
                        go_wp2_with fail
                        refine (HB2.out _ Sp).mono ?_; rintro e w8 ⟨rfl, rfl⟩
                        rw [hX2]
                        go_wp2_with fail
                        go_ret
                        exact ⟨ret_n HL.out.symm, HH.out⟩
                    · have pX2 := of_decide_eq_true hX2
                      have HL := Lib.hid (show J = 3 by rw [HJ2.out, show fvS hi life wh M0 M5 M4 D.b4 (decide (0 ≤ D.n1)) = 3 from fv3 (by omega) (by omega) (by omega) hmr (decide_eq_false sap) (by omega)]; rfl)
                      have hz := decide_eq_true (show D.n1 < 0 by omega)
                      go_wp2_with fail
                      refine (HB2.out _ Sp).mono ?_; rintro e w8 ⟨rfl, rfl⟩
                      rw [hX2]
                      go_wp2_with fail
                      go_ret
                      exact ⟨ret_n HL.out.symm, HH.out⟩
                  · cases hv
                    · skip
                      have HL := Lib.hid (show J = 5 by rw [HJ2.out, show fvS hi life wh M0 M5 M4 D.b4 (decide (0 ≤ D.n1)) = 0 from fv0 (by omega) (by omega) (.inl (by omega))]; rfl)
                      have hz := decide_eq_true (show D.n1 < 0 by omega)
                      go_wp2_with fail
                      go_ret
                      exact ⟨ret_n HL.out.symm, HH.out⟩
                    · skip
                      have HL := Lib.hid (show J = 4 by rw [HJ2.out, show fvS hi life wh M0 M5 M4 D.b4 (decide (0 ≤ D.n1)) = 0 from fv0 (by omega) (by omega) (.inl (by omega))]; rfl)
                      have hz := decide_eq_true (show D.n1 < 0 by omega)
                      go_wp2_with fail
                      go_ret
                      exact ⟨ret_n HL.out.symm, HH.out⟩
              · (try rw [hmr] at d4)
                cases hv
                · skip
                  have HL := Lib.hid (show J = 5 by rw [HJ2.out, show fvS hi life wh M0 M5 M4 D.b4 (decide (0 ≤ D.n1)) = 0 from fv0 (by omega) (by omega) (.inr (.inl hmr))]; rfl)
                  go_wp2_with fail
                  go_ret
                  exact ⟨ret_n HL.out.symm, HH.out⟩
                · skip
                  have HL := Lib.hid (show J = 4 by rw [HJ2.out, show fvS hi life wh M0 M5 M4 D.b4 (decide (0 ≤ D.n1)) = 0 from fv0 (by omega) (by omega) (.inr (.inl hmr))]; rfl)
                  go_wp2_with fail
                  go_ret
                  exact ⟨ret_n HL.out.symm, HH.out⟩
            · cases hv
              · skip
                have HL := Lib.hid (show J = 5 by rw [HJ2.out, show fvS hi life wh M0 M5 M4 D.b4 (decide (0 ≤ D.n1)) = 0 from fv0 (by omega) (by omega) (.inl (by omega))]; rfl)
                go_wp2_with fail
                go_ret
                exact ⟨ret_n HL.out.symm, HH.out⟩
              · skip
                have HL := Lib.hid (show J = 4 by rw [HJ2.out, show fvS hi life wh M0 M5 M4 D.b4 (decide (0 ≤ D.n1)) = 0 from fv0 (by omega) (by omega) (.inl (by omega))]; rfl)
                go_wp2_with fail
                go_ret
                exact ⟨ret_n HL.out.symm, HH.out⟩
          · cases hv
            · skip
              have HL := Lib.hid (show J = 5 by rw [HJ2.out, show fvS hi life wh M0 M5 M4 D.b4 (decide (0 ≤ D.n1)) = 0 from fv0 (by omega) (by omega) (.inl (by omega))]; rfl)
              go_wp2_with fail
              go_ret
              exact ⟨ret_n HL.out.symm, HH.out⟩
            · skip
              have HL := Lib.hid (show J = 4 by rw [HJ2.out, show fvS hi life wh M0 M5 M4 D.b4 (decide (0 ≤ D.n1)) = 0 from fv0 (by omega) (by omega) (.inl (by omega))]; rfl)
              go_wp2_with fail
              go_ret
              exact ⟨ret_n HL.out.symm, HH.out⟩
      · by_cases Sp : 0 ≤ M4
        · by_cases Fp : M5 < 0
          · cases hmr : D.b4
            · (try rw [hmr] at d4)
              by_cases sap : 0 ≤ D.n1
              · cases hv
                · skip
                  have HL := Lib.hid (show J = 5 by rw [HJ2.out, show fvS hi life wh M0 M5 M4 D.b4 (decide (0 ≤ D.n1)) = 0 from fv0 (by omega) (by omega) (.inr (.inr (decide_eq_true sap)))]; rfl)
                  have hz := decide_eq_false (show ¬ D.n1 < 0 by omega)
                  go_wp2_with fail
                  go_ret
                  exact ⟨ret_n HL.out.symm, HH.out⟩
                · skip
                  have HL := Lib.hid (show J = 4 by rw [HJ2.out, show fvS hi life wh M0 M5 M4 D.b4 (decide (0 ≤ D.n1)) = 0 from fv0 (by omega) (by omega) (.inr (.inr (decide_eq_true sap)))]; rfl)
                  have hz := decide_eq_false (show ¬ D.n1 < 0 by omega)
                  go_wp2_with fail
                  go_ret
                  exact ⟨ret_n HL.out.symm, HH.out⟩
              · by_cases h5p : hi < life + 1000 * M4
                · cases hX2 : blS hi M0 (1000 * M4)
                  · have pX2 := of_decide_eq_false hX2
                    cases hv
                    · skip
                      have HL := Lib.hid (show J = 5 by rw [HJ2.out, show fvS hi life wh M0 M5 M4 D.b4 (decide (0 ≤ D.n1)) = 0 from fv0 (by omega) (by omega) (.inl (by omega))]; rfl)
                      have hz := decide_eq_true (show D.n1 < 0 by omega)
                      go_wp2_with fail
                      refine (HB2.out _ Sp).mono ?_; rintro e w8 ⟨rfl, rfl⟩
                      rw [hX2]
                      go_wp2_with fail
                      go_ret
                      exact ⟨ret_n HL.out.symm, HH.out⟩
                    · skip
                      have HL := Lib.hid (show J = 4 by rw [HJ2.out, show fvS hi life wh M0 M5 M4 D.b4 (decide (0 ≤ D.n1)) = 0 from fv0 (by omega) (by omega) (.inl (by omega))]; rfl)
                      have hz := decide_eq_true (show D.n1 < 0 by omega)
                      go_wp2_with fail
                      refine (HB2.out _ Sp).mono ?_; rintro e w8 ⟨rfl, rfl⟩
                      rw [hX2]
                      go_wp2_with fail
                      go_ret
                      exact ⟨ret_n HL.out.symm, HH.out⟩
                  · have pX2 := of_decide_eq_true hX2
                    have HL := Lib.hid (show J = 3 by rw [HJ2.out, show fvS hi life wh M0 M5 M4 D.b4 (decide (0 ≤ D.n1)) = 3 from fv3 (by omega) (by omega) (by omega) hmr (decide_eq_false sap) (by omega)]; rfl)
                    have hz := decide_eq_true (show D.n1 < 0 by omega)
                    go_wp2_with fail
                    refine (HB2.out _ Sp).mono ?_; rintro e w8 ⟨rfl, rfl⟩
                    rw [hX2]
                    go_wp2_with fail
                    go_ret
                    exact ⟨ret_n HL.out.symm, HH.out⟩
                · cases hv
                  · skip
                    have HL := Lib.hid (show J = 5 by rw [HJ2.out, show fvS hi life wh M0 M5 M4 D.b4 (decide (0 ≤ D.n1)) = 0 from fv0 (by omega) (by omega) (.inl (by omega))]; rfl)
                    have hz := decide_eq_true (show D.n1 < 0 by omega)
                    go_wp2_with fail
                    go_ret
                    exact ⟨ret_n HL.out.symm, HH.out⟩
                  · skip
                    have HL := Lib.hid (show J = 4 by rw [HJ2.out, show fvS hi life wh M0 M5 M4 D.b4 (decide (0 ≤ D.n1)) = 0 from fv0 (by omega) (by omega) (.inl (by omega))]; rfl)
                    have hz := decide_eq_true (show D.n1 < 0 by omega)
                    go_wp2_with fail
                    go_ret
                    exact ⟨ret_n HL.out.symm, HH.out⟩
            · (try rw [hmr] at d4)
              cases hv
              · skip
                have HL := Lib.hid (show J = 5 by rw [HJ2.out, show fvS hi life wh M0 M5 M4 D.b4 (decide (0 ≤ D.n1)) = 0 from fv0 (by omega) (by omega) (.inr (.inl hmr))]; rfl)
                go_wp2_with fail
                go_ret
                exact ⟨ret_n HL.out.symm, HH.out⟩
              · skip
                have HL := Lib.hid (show J = 4 by rw [HJ2.out, show fvS hi life wh M0 M5 M4 D.b4 (decide (0 ≤ D.n1)) = 0 from fv0 (by omega) (by omega) (.inr (.inl hmr))]; rfl)
                go_wp2_with fail
                go_ret
                exact ⟨ret_n HL.out.symm, HH.out⟩
          · cases hv
            · skip
              have HL := Lib.hid (show J = 5 by rw [HJ2.out, show fvS hi life wh M0 M5 M4 D.b4 (decide (0 ≤ D.n1)) = 0 from fv0 (by omega) (by omega) (.inl (by omega))]; rfl)
              go_wp2_with fail
              go_ret
              exact ⟨ret_n HL.out.symm, HH.out⟩
            · skip
              have HL := Lib.hid (show J = 4 by rw [HJ2.out, show fvS hi life wh M0 M5 M4 D.b4 (decide (0 ≤ D.n1)) = 0 from fv0 (by omega) (by omega) (.inl (by omega))]; rfl)
              go_wp2_with fail
              go_ret
              exact ⟨ret_n HL.out.symm, HH.out⟩
        · cases hv
          · skip
            have HL := Lib.hid (show J = 5 by rw [HJ2.out, show fvS hi life wh M0 M5 M4 D.b4 (decide (0 ≤ D.n1)) = 0 from fv0 (by omega) (by omega) (.inl (by omega))]; rfl)
            go_wp2_with fail
            go_ret
            exact ⟨ret_n HL.out.symm, HH.out⟩
          · skip
            have HL := Lib.hid (show J = 4 by rw [HJ2.out, show fvS hi life wh M0 M5 M4 D.b4 (decide (0 ≤ D.n1)) = 0 from fv0 (by omega) (by omega) (.inl (by omega))]; rfl)
            go_wp2_with fail
            go_ret
            exact ⟨ret_n HL.out.symm, HH.out⟩

theorem fldR_1 (D : D) (w : World) : (Instr.field 28 (.agg (dArr D)) 1).run Tryz.prog w = .ok (.bool D.b1) w := by kernel_rfl
set_option maxHeartbeats 16000000 in
set_option maxRecDepth 100000 in
theorem ref17_OnError (st : Int) (A : Option Addr) (n c : Nat) (fs : List Fd) (se re ag : Int) (hv : Bool) (now ppm : Int) (w : World) (hf : RdF w A n fs) (hn : n ≤ 1073741824) (hsz : Bsz 1048576 fs) :
    Calls Tryz.prog 12 #[.agg #[.int .i64 st, .slice A n c, .int .i64 se, .int .i64 re, .int .i64 ag, .bool hv], .int .i64 now, .int .i64 ppm] w fun e w' => e = .returned (.bool (oeS ⟨st, fs, ⟨se, re, ag⟩, hv⟩ now ppm)) ∧ Ext w w' := by
  have HP := Lib.hid (fun w' (h : Ext w w') => ref_Directives A n c fs w' (hf.ext h) hn hsz)
  have HO := Lib.hid (fun w' (h : Ext w w') => ref14_Of st A n c fs w' (hf.ext h) hn hsz)
  have HA := Lib.hid (fun w' (h : Ext w w') => ref_Allowance A n c fs w' (hf.ext h) hn hsz)
  have HAt := Lib.hid (ref13_At se re ag now ppm)
  have Hbd := Lib.hid (fun p (h : atO ⟨se, re, ag⟩ now ppm = some p) => atO_bd h)
  have HJ := Lib.hid (show oeS ⟨st, fs, ⟨se, re, ag⟩, hv⟩ now ppm = ((atO ⟨se, re, ag⟩ now ppm).isSome && !(ccD fs).b1 && decide ((match atO ⟨se, re, ag⟩ now ppm with | some p => p.2 | none => 0) < (ofS st fs).1 + (alwS fs).2)) from rfl)
  obtain ⟨l0, l1, _⟩ := ofS_bd st fs
  obtain ⟨_, _, a0, a1⟩ := alwS_bd fs
  generalize oeS ⟨st, fs, ⟨se, re, ag⟩, hv⟩ now ppm = J at *
  generalize atO ⟨se, re, ag⟩ now ppm = O at *
  generalize ofS st fs = OF at *
  generalize alwS fs = AL at *
  obtain ⟨life, kd⟩ := OF
  obtain ⟨wh, on⟩ := AL
  simp only [] at l0 l1 a0 a1 HJ
  generalize ccD fs = D at *
  have HBs := Lib.hid (Blk.new w 26 #[.int .i64 st, .slice A n c, .int .i64 se, .int .i64 re, .int .i64 ag, .bool hv])
  have HE := Lib.hid ((Ext.refl w).alloc (.cells #[.int .i64 st, .slice A n c, .int .i64 se, .int .i64 re, .int .i64 ag, .bool hv] 26))
  go_enter Tryz.func12, Tryz.ntmps12
  go_wp2_with fail
  generalize w.alloc (.cells #[.int .i64 st, .slice A n c, .int .i64 se, .int .i64 re, .int .i64 ag, .bool hv] 26) = W0 at *
  refine (HO.out _ HE.out).mono ?_; rintro e w1 ⟨rfl, hb1⟩
  have s1 := (HBs.out.ext hb1).cell 1
  rw [show pairV (life, kd) = .tuple #[.int .i64 life, .int .i64 kd] from rfl]
  go_wp2_with fail
  refine (HA.out _ (HE.out.trans hb1)).mono ?_; rintro e w2 ⟨rfl, hb2⟩
  have h2 := hb1.trans hb2
  have s1 := hb2.cell s1
  have s2 := (HBs.out.ext h2).cell 2
  have s3 := (HBs.out.ext h2).cell 3
  have s4 := (HBs.out.ext h2).cell 4
  rw [show pairV (wh, on) = .tuple #[.int .i64 wh, .int .i64 on] from rfl]
  go_wp2_with fail
  refine (HAt.out _).mono ?_; rintro e w3 ⟨rfl, hb3⟩
  have h3 := h2.trans hb3
  have s1 := hb3.cell s1
  clear s2 s3 s4
  cases O with
  | none =>
    have HL := Lib.hid (show J = false by rw [HJ.out]; rfl)
    unfold atR
    go_wp2_with fail
    go_ret
    exact ⟨ret_b HL.out.symm, HE.out.trans h3⟩
  | some p =>
    obtain ⟨lo, hi⟩ := p
    obtain ⟨_, _, u0, u1⟩ := Hbd.out _ rfl
    simp only [] at u0 u1
    unfold atR
    go_wp2_with fail
    refine (HP.out _ (HE.out.trans h3)).mono ?_; rintro e w4 ⟨rfl, hb4⟩
    have h4 := h3.trans hb4
    cases hD : D.b1
    rotate_left
    · have HL := Lib.hid (show J = false by rw [HJ.out, hD]; rfl)
      have hfd : ∀ w, (Instr.field 28 (.agg (dArr D)) 1).run Tryz.prog w = .ok (.bool true) w := fun w => by rw [fldR_1, hD]
      go_wp2_with fail
      go_ret
      exact ⟨ret_b HL.out.symm, HE.out.trans h4⟩
    · have HL := Lib.hid (show J = decide (hi < life + on) by rw [HJ.out, hD]; simp)
      have hfd : ∀ w, (Instr.field 28 (.agg (dArr D)) 1).run Tryz.prog w = .ok (.bool false) w := fun w => by rw [fldR_1, hD]
      go_wp2_with fail
      go_ret
      exact ⟨ret_b HL.out.symm, HE.out.trans h4⟩

set_option maxHeartbeats 16000000 in
set_option maxRecDepth 100000 in
theorem ref17_Limit (st : Int) (A : Option Addr) (n c : Nat) (fs : List Fd) (se re ag : Int) (hv : Bool) (w : World) (hf : RdF w A n fs) (hn : n ≤ 1073741824) (hsz : Bsz 1048576 fs) :
    Calls Tryz.prog 14 #[.agg #[.int .i64 st, .slice A n c, .int .i64 se, .int .i64 re, .int .i64 ag, .bool hv]] w fun e w' => e = .returned (.int .i64 (lmS ⟨st, fs, ⟨se, re, ag⟩, hv⟩)) ∧ Ext w w' := by
  have HP := Lib.hid (fun w' (h : Ext w w') => ref_Directives A n c fs w' (hf.ext h) hn hsz)
  have HO := Lib.hid (fun w' (h : Ext w w') => ref14_Of st A n c fs w' (hf.ext h) hn hsz)
  have HA := Lib.hid (fun w' (h : Ext w w') => ref_Allowance A n c fs w' (hf.ext h) hn hsz)
  have HJ := Lib.hid (show lmS ⟨st, fs, ⟨se, re, ag⟩, hv⟩ = if (ccD fs).b1 then 0 else (ofS st fs).1 + max (alwS fs).1 (alwS fs).2 from rfl)
  obtain ⟨l0, l1, _⟩ := ofS_bd st fs
  obtain ⟨a0, a1, a2, a3⟩ := alwS_bd fs
  generalize lmS ⟨st, fs, ⟨se, re, ag⟩, hv⟩ = J at *
  generalize ofS st fs = OF at *
  generalize alwS fs = AL at *
  obtain ⟨life, kd⟩ := OF
  obtain ⟨wh, on⟩ := AL
  simp only [] at l0 l1 a0 a1 a2 a3 HJ
  generalize ccD fs = D at *
  have HBs := Lib.hid (Blk.new w 26 #[.int .i64 st, .slice A n c, .int .i64 se, .int .i64 re, .int .i64 ag, .bool hv])
  have HE := Lib.hid ((Ext.refl w).alloc (.cells #[.int .i64 st, .slice A n c, .int .i64 se, .int .i64 re, .int .i64 ag, .bool hv] 26))
  go_enter Tryz.func14, Tryz.ntmps14
  go_wp2_with fail
  generalize w.alloc (.cells #[.int .i64 st, .slice A n c, .int .i64 se, .int .i64 re, .int .i64 ag, .bool hv] 26) = W0 at *
  refine (HP.out _ HE.out).mono ?_; rintro e w2 ⟨rfl, h2⟩
  have s0 := (HBs.out.ext h2).cell 0
  have s1 := (HBs.out.ext h2).cell 1
  cases hD : D.b1
  rotate_left
  · have HL := Lib.hid (show J = 0 by rw [HJ.out, hD]; rfl)
    have hfd : ∀ w, (Instr.field 28 (.agg (dArr D)) 1).run Tryz.prog w = .ok (.bool true) w := fun w => by rw [fldR_1, hD]
    go_wp2_with fail
    go_ret
    exact ⟨ret_n HL.out.symm, HE.out.trans h2⟩
  · have HL := Lib.hid (show J = life + max wh on by rw [HJ.out, hD]; rfl)
    have hfd : ∀ w, (Instr.field 28 (.agg (dArr D)) 1).run Tryz.prog w = .ok (.bool false) w := fun w => by rw [fldR_1, hD]
    go_wp2_with fail
    refine (HO.out _ (HE.out.trans h2)).mono ?_; rintro e w3 ⟨rfl, hb3⟩
    have s1 := hb3.cell s1
    have h3 := h2.trans hb3
    rw [show pairV (life, kd) = .tuple #[.int .i64 life, .int .i64 kd] from rfl]
    go_wp2_with fail
    refine (HA.out _ (HE.out.trans h3)).mono ?_; rintro e w4 ⟨rfl, hb4⟩
    have h4 := h3.trans hb4
    rw [show pairV (wh, on) = .tuple #[.int .i64 wh, .int .i64 on] from rfl]
    by_cases hm : wh ≤ on
    · go_wp2_with fail
      all_goals
        go_ret
        exact ⟨ret_n (by rw [HL.out]; try omega), HE.out.trans h4⟩
    · go_wp2_with fail
      all_goals
        go_ret
        exact ⟨ret_n (by rw [HL.out]; try omega), HE.out.trans h4⟩
end Go.Proofs.YtocniclkooiggaaGreatDoor

namespace Go.Proofs.YtocniclkooiggaaGreatDoor
open Go.RowKit
theorem yield_loadG {P : Program} {ops : Array Oper} {o : Oper} {a : Act} {S : World → Prop} (hw : Region.wanted o (yielded ops a.tmps) = true) (ty : TypeId) (x : Operand) (ho : o.op = .load ty x)
    (g : Nat) (hx : a.eval x = .pointer (some ⟨g, 0, none⟩)) (t : TypeId) (cs : Array Value) (hg : ∀ w, S w → Blk w g t cs) (fs : Array Field)
    (hu : P.underlying ty = some (.struct fs)) (hi : (P.info? ty).map (·.size) = some cs.size) : YieldsIf P ops S o (.agg cs) a := by
  refine .inl ⟨hw, fun w hS => ?_⟩
  unfold execOp
  simp only [ho, hx, Instr.loadAt, Instr.sureAddr, Sem.run_bind, Sem.run_pure, Result.andThen_ok, run_loadVar_row w g t ty cs (0, 0) _ (hg w hS) hu rfl hi]

set_option maxHeartbeats 16000000 in
set_option maxRecDepth 100000 in
theorem judges_walk (st : Int) (A : Option Addr) (n c : Nat) (fs : List Fd) (se re ag : Int) (hv : Bool) (q : D) (now ppm : Int) (w : World) (hf : RdF w A n fs) (hbk : fs.length + sumF fs ≤ 1048576) (hg : GlH w) (hgl : Gl w) :
    Calls Tryz.prog 3 #[.agg #[.int .i64 st, .slice A n c, .int .i64 se, .int .i64 re, .int .i64 ag, .bool hv], .agg (dArr q), .agg #[.int .i64 now, .int .i64 ppm]] w fun e w' => e = .returned (.bool true) ∧ Ext w w' := by
  have HBs := Lib.hid (((Blk.new w 26 #[.int .i64 st, .slice A n c, .int .i64 se, .int .i64 re, .int .i64 ag, .bool hv]).alloc (.cells (dArr q) 28)).alloc (.cells #[.int .i64 now, .int .i64 ppm] 30))
  have HBq := Lib.hid ((show Blk ((w.alloc (.cells #[.int .i64 st, .slice A n c, .int .i64 se, .int .i64 re, .int .i64 ag, .bool hv] 26)).alloc (.cells (dArr q) 28)) (w.heap.size + 1) 28 (dArr q) by
    have h := Blk.new (w.alloc (.cells #[.int .i64 st, .slice A n c, .int .i64 se, .int .i64 re, .int .i64 ag, .bool hv] 26)) 28 (dArr q)
    rw [World.size_alloc] at h; exact h).alloc (.cells #[.int .i64 now, .int .i64 ppm] 30))
  have HBm := Lib.hid (show Blk (((w.alloc (.cells #[.int .i64 st, .slice A n c, .int .i64 se, .int .i64 re, .int .i64 ag, .bool hv] 26)).alloc (.cells (dArr q) 28)).alloc (.cells #[.int .i64 now, .int .i64 ppm] 30)) (w.heap.size + 1 + 1) 30 #[.int .i64 now, .int .i64 ppm] by
    have h := Blk.new ((w.alloc (.cells #[.int .i64 st, .slice A n c, .int .i64 se, .int .i64 re, .int .i64 ag, .bool hv] 26)).alloc (.cells (dArr q) 28)) 30 #[.int .i64 now, .int .i64 ppm]
    rw [World.size_alloc, World.size_alloc] at h; exact h)
  have HE := Lib.hid ((((Ext.refl w).alloc (.cells #[.int .i64 st, .slice A n c, .int .i64 se, .int .i64 re, .int .i64 ag, .bool hv] 26)).alloc (.cells (dArr q) 28)).alloc (.cells #[.int .i64 now, .int .i64 ppm] 30))
  go_enter Tryz.func3, Tryz.ntmps3
  go_wp2_with fail
  generalize ((w.alloc (.cells #[.int .i64 st, .slice A n c, .int .i64 se, .int .i64 re, .int .i64 ag, .bool hv] 26)).alloc (.cells (dArr q) 28)).alloc (.cells #[.int .i64 now, .int .i64 ppm] 30) = W0 at *
  generalize hbq : w.heap.size = b at *
  refine (law17_large A n c fs _ (hf.ext HE.out) hbk).mono ?_; rintro e w1 ⟨rfl, hb1⟩
  cases hlg : lg17 fs
  rotate_left
  · have s1 := (HBs.out.ext hb1).cell 1
    go_wp2_with fail
    refine (law17_large A n c fs _ (hf.ext (HE.out.trans hb1)) hbk).mono ?_; rintro e w2 ⟨rfl, hb2⟩
    rw [hlg]
    go_wp2_with fail
    go_ret
    exact ⟨rfl, HE.out.trans (hb1.trans hb2)⟩
  have Hs := Lib.hid (lg_no17 hlg)
  have Hbs := Lib.hid ((bsz_of_sumF fs).mono (show sumF fs ≤ 1048576 by omega))
  have hn : n ≤ 3000 := by have := hf.lenF; have := Hs.out; omega
  have Hm := Lib.hid hn
  clear hlg hbk hn
  go_wp2_with fail
  refine (law17_awake _ (hg.ext (HE.out.trans hb1)) (hgl.ext (HE.out.trans hb1))).mono ?_; rintro e w2 ⟨rfl, hb2⟩
  have HW2 := Lib.hid (hb1.trans hb2)
  clear hb1 hb2
  have HS2 := Lib.hid (HBs.out.ext HW2.out); have HQ2 := Lib.hid (HBq.out.ext HW2.out); have HM2 := Lib.hid (HBm.out.ext HW2.out)
  have HZ := Lib.hid (HE.out.trans HW2.out)
  clear HBs HBq HBm
  go_wp2_with fail
  have hE := (Ext.refl w2).drew
  refine wp_region_held_drew (S := (fun w' => Blk w' b 26 #[.int .i64 st, .slice A n c, .int .i64 se, .int .i64 re, .int .i64 ag, .bool hv] ∧ Blk w' (b + 1) 28 (dArr q) ∧ w'.cell? ⟨b + 1 + 1, 0, none⟩ = some (.int .i64 now) ∧ w'.cell? ⟨b + 1 + 1, 1, none⟩ = some (.int .i64 ppm))) (by kernel_rfl) ?_ (fun hHeld => ?_)
  · (try dsimp only); exact ⟨HS2.out.ext hE, HQ2.out.ext hE, (HM2.out.ext hE).cell 0, (HM2.out.ext hE).cell 1⟩
  refine wpAnyH_take (i := 0) (oi := { dst := some 17, op := _, type := _, pos := _, after := _, guard := _ }) (v := .agg #[.int .i64 st, .slice A n c, .int .i64 se, .int .i64 re, .int .i64 ag, .bool hv]) rfl (by kernel_rfl) (by kernel_rfl) (by kernel_rfl) (fun _ _ _ h => h) (yield_loadB rfl 26 (.tmp 3) rfl (b) rfl 26 _ (fun w h => h.1) _ Tryz.underlying26 infoRs) (by assumption) ?_
  (try simp only [Act.put, List.setIfInBounds_toArray, List.set_cons_zero, List.set_cons_succ])
  refine wpAnyH_take (i := 2) (oi := { dst := some 19, op := _, type := _, pos := _, after := _, guard := _ }) (v := .agg (dArr q)) rfl (by kernel_rfl) (by kernel_rfl) (by kernel_rfl) (fun _ _ _ h => h) (yield_loadB rfl 28 (.tmp 4) rfl (b + 1) rfl 28 _ (fun w h => h.2.1) _ Tryz.underlying28 infoD) (by assumption) ?_
  (try simp only [Act.put, List.setIfInBounds_toArray, List.set_cons_zero, List.set_cons_succ])
  refine wpAnyH_take (i := 4) (oi := { dst := some 21, op := _, type := _, pos := _, after := _, guard := _ }) (v := ?_) rfl (by kernel_rfl) (by kernel_rfl) (by kernel_rfl) (fun _ _ _ h => h) (Or.inl ⟨by rfl, ?_⟩) (by assumption) ?_
  rotate_left
  · (intro w hSw; (try dsimp only at hSw); go_simp; (try with_reducible rfl))
  (try simp only [Act.put, List.setIfInBounds_toArray, List.set_cons_zero, List.set_cons_succ])
  refine wpAnyH_take (i := 5) (oi := { dst := some 22, op := _, type := _, pos := _, after := _, guard := _ }) (v := ?_) rfl (by kernel_rfl) (by kernel_rfl) (by kernel_rfl) (fun _ _ _ h => h) (Or.inl ⟨by rfl, ?_⟩) (by assumption) ?_
  rotate_left
  · (intro w hSw; (try dsimp only at hSw); go_simp; (try with_reducible rfl))
  (try simp only [Act.put, List.setIfInBounds_toArray, List.set_cons_zero, List.set_cons_succ])
  refine wpAnyH_take (i := 6) (oi := { dst := some 23, op := _, type := _, pos := _, after := _, guard := _ }) (v := ?_) rfl (by kernel_rfl) (by kernel_rfl) (by kernel_rfl) (fun _ _ _ h => h) (Or.inl ⟨by rfl, ?_⟩) (by assumption) ?_
  rotate_left
  · (intro w hSw; (try dsimp only at hSw); go_simp; (try with_reducible rfl))
  (try simp only [Act.put, List.setIfInBounds_toArray, List.set_cons_zero, List.set_cons_succ])
  refine wpAnyH_take (i := 7) (oi := { dst := some 24, op := _, type := _, pos := _, after := _, guard := _ }) (v := ?_) rfl (by kernel_rfl) (by kernel_rfl) (by kernel_rfl) (fun _ _ _ h => h) (Or.inl ⟨by rfl, ?_⟩) (by assumption) ?_
  rotate_left
  · (intro w hSw; (try dsimp only at hSw); go_simp; (try with_reducible rfl))
  (try simp only [Act.put, List.setIfInBounds_toArray, List.set_cons_zero, List.set_cons_succ])
  refine wpAnyH_take (i := 9) (oi := { dst := some 26, op := _, type := _, pos := _, after := _, guard := _ }) (v := .agg #[.int .i64 st, .slice A n c, .int .i64 se, .int .i64 re, .int .i64 ag, .bool hv]) rfl (by kernel_rfl) (by kernel_rfl) (by kernel_rfl) (fun _ _ _ h => h) (yield_loadB rfl 26 (.tmp 3) rfl (b) rfl 26 _ (fun w h => h.1) _ Tryz.underlying26 infoRs) (by assumption) ?_
  (try simp only [Act.put, List.setIfInBounds_toArray, List.set_cons_zero, List.set_cons_succ])
  refine wpAnyH_take (i := 10) (oi := { dst := some 27, op := _, type := _, pos := _, after := _, guard := _ }) (v := .agg (dArr q)) rfl (by kernel_rfl) (by kernel_rfl) (by kernel_rfl) (fun _ _ _ h => h) (yield_loadB rfl 28 (.tmp 4) rfl (b + 1) rfl 28 _ (fun w h => h.2.1) _ Tryz.underlying28 infoD) (by assumption) ?_
  (try simp only [Act.put, List.setIfInBounds_toArray, List.set_cons_zero, List.set_cons_succ])
  refine wpAnyH_take (i := 11) (oi := { dst := some 28, op := _, type := _, pos := _, after := _, guard := _ }) (v := ?_) rfl (by kernel_rfl) (by kernel_rfl) (by kernel_rfl) (fun _ _ _ h => h) (Or.inl ⟨by rfl, ?_⟩) (by assumption) ?_
  rotate_left
  · (intro w hSw; (try dsimp only at hSw); go_simp; (try with_reducible rfl))
  (try simp only [Act.put, List.setIfInBounds_toArray, List.set_cons_zero, List.set_cons_succ])
  refine wpAnyH_take (i := 12) (oi := { dst := some 29, op := _, type := _, pos := _, after := _, guard := _ }) (v := ?_) rfl (by kernel_rfl) (by kernel_rfl) (by kernel_rfl) (fun _ _ _ h => h) (Or.inl ⟨by rfl, ?_⟩) (by assumption) ?_
  rotate_left
  · (intro w hSw; (try dsimp only at hSw); go_simp; (try with_reducible rfl))
  (try simp only [Act.put, List.setIfInBounds_toArray, List.set_cons_zero, List.set_cons_succ])
  refine wpAnyH_take (i := 13) (oi := { dst := some 30, op := _, type := _, pos := _, after := _, guard := _ }) (v := ?_) rfl (by kernel_rfl) (by kernel_rfl) (by kernel_rfl) (fun _ _ _ h => h) (Or.inl ⟨by rfl, ?_⟩) (by assumption) ?_
  rotate_left
  · (intro w hSw; (try dsimp only at hSw); go_simp; (try with_reducible rfl))
  (try simp only [Act.put, List.setIfInBounds_toArray, List.set_cons_zero, List.set_cons_succ])
  refine wpAnyH_take (i := 14) (oi := { dst := some 31, op := _, type := _, pos := _, after := _, guard := _ }) (v := ?_) rfl (by kernel_rfl) (by kernel_rfl) (by kernel_rfl) (fun _ _ _ h => h) (Or.inl ⟨by rfl, ?_⟩) (by assumption) ?_
  rotate_left
  · (intro w hSw; (try dsimp only at hSw); go_simp; (try with_reducible rfl))
  (try simp only [Act.put, List.setIfInBounds_toArray, List.set_cons_zero, List.set_cons_succ])
  refine wpAnyH_ready (rs := [1]) (by kernel_rfl) (by simp) ?_
  refine AllReadyH.cons (o := { dst := some 18, op := _, type := _, pos := _, after := _, guard := _ }) rfl (fun K hK => ?_) AllReadyH.nil
  go_simp
  refine (law17_Stored st A n c fs se re ag hv _ (hf.ext (HZ.out.trans hE)) (by have := Hm.out; omega)).mono ?_; rintro e w3 ⟨A2, c2, rfl, hx3, _, hb3, _⟩; replace hE := hE.trans hb3; clear hb3
  try go_wp2_with fail
  refine hK.out _ _ ?_ (fun hHeld => ?_)
  · (try dsimp only); exact ⟨HS2.out.ext hE, HQ2.out.ext hE, (HM2.out.ext hE).cell 0, (HM2.out.ext hE).cell 1⟩
  clear hK K
  (try simp only [Act.put, List.setIfInBounds_toArray, List.set_cons_zero, List.set_cons_succ])
  refine wpAnyH_ready (rs := [3]) (by kernel_rfl) (by simp) ?_
  refine AllReadyH.cons (o := { dst := some 20, op := _, type := _, pos := _, after := _, guard := _ }) rfl (fun K hK => ?_) AllReadyH.nil
  go_simp
  refine (law_Program q _).mono ?_; rintro e w4 ⟨rfl, hb4⟩; replace hE := hE.trans hb4; replace hx3 := hx3.ext hb4; clear hb4
  try go_wp2_with fail
  refine hK.out _ _ ?_ (fun hHeld => ?_)
  · (try dsimp only); exact ⟨HS2.out.ext hE, HQ2.out.ext hE, (HM2.out.ext hE).cell 0, (HM2.out.ext hE).cell 1⟩
  clear hK K
  (try simp only [Act.put, List.setIfInBounds_toArray, List.set_cons_zero, List.set_cons_succ])
  refine wpAnyH_ready (rs := [8]) (by kernel_rfl) (by simp) ?_
  refine AllReadyH.cons (o := { dst := some 25, op := _, type := _, pos := _, after := _, guard := _ }) rfl (fun K hK => ?_) AllReadyH.nil
  go_simp
  refine (policy_Judge st A2 n c2 fs se re ag hv q now ppm _ hx3 (by have := Hm.out; omega) Hbs.out (hg.ext (HZ.out.trans hE)) (by have := Hs.out; have := Hm.out; omega) (hgl.ext (HZ.out.trans hE))).mono ?_; rintro e w5 ⟨rfl, hb5⟩; replace hE := hE.trans hb5; clear hb5
  try go_wp2_with fail
  refine hK.out _ _ ?_ (fun hHeld => ?_)
  · (try dsimp only); exact ⟨HS2.out.ext hE, HQ2.out.ext hE, (HM2.out.ext hE).cell 0, (HM2.out.ext hE).cell 1⟩
  clear hK K
  (try simp only [Act.put, List.setIfInBounds_toArray, List.set_cons_zero, List.set_cons_succ])
  refine wpAnyH_ready (rs := [15]) (by kernel_rfl) (by simp) ?_
  refine AllReadyH.cons (o := { dst := some 32, op := _, type := _, pos := _, after := _, guard := _ }) rfl (fun K hK => ?_) AllReadyH.nil
  go_simp
  refine (ref17_Judge st A n c fs se re ag hv q now ppm _ (hf.ext (HZ.out.trans hE)) (by have := Hm.out; omega) Hbs.out).mono ?_; rintro e w6 ⟨rfl, hb6⟩; replace hE := hE.trans hb6; clear hb6
  try go_wp2_with fail
  refine hK.out _ _ ?_ (fun hHeld => ?_)
  · (try dsimp only); exact ⟨HS2.out.ext hE, HQ2.out.ext hE, (HM2.out.ext hE).cell 0, (HM2.out.ext hE).cell 1⟩
  clear hK K
  (try simp only [Act.put, List.setIfInBounds_toArray, List.set_cons_zero, List.set_cons_succ])
  refine wpAnyH_take (i := 16) (oi := { dst := some 33, op := _, type := _, pos := _, after := _, guard := _ }) (v := ?_) rfl (by kernel_rfl) (by kernel_rfl) (by kernel_rfl) (fun _ _ _ h => h) (Or.inl ⟨by rfl, ?_⟩) (by assumption) ?_
  rotate_left
  · (intro w hSw; (try dsimp only at hSw); go_simp; (try with_reducible rfl))
  (try simp only [Act.put, List.setIfInBounds_toArray, List.set_cons_zero, List.set_cons_succ])
  refine wpAnyH_take (i := 17) (oi := { dst := some 6, op := _, type := _, pos := _, after := _, guard := _ }) (v := ?_) rfl (by kernel_rfl) (by kernel_rfl) (by kernel_rfl) (fun _ _ _ h => h) (Or.inl ⟨by rfl, ?_⟩) (by assumption) ?_
  rotate_left
  · (intro w hSw; (try dsimp only at hSw); go_simp; (try with_reducible rfl))
  (try simp only [Act.put, List.setIfInBounds_toArray, List.set_cons_zero, List.set_cons_succ])
  refine wpAnyH_done (by kernel_rfl) ?_ _
  go_wp2_with fail
  go_ret
  exact ⟨rfl, HZ.out.trans hE⟩

set_option maxHeartbeats 16000000 in
set_option maxRecDepth 100000 in
theorem errors_walk (st : Int) (A : Option Addr) (n c : Nat) (fs : List Fd) (se re ag : Int) (hv : Bool) (now ppm : Int) (w : World) (hf : RdF w A n fs) (hbk : fs.length + sumF fs ≤ 1048576) (hg : GlH w) (hgl : Gl w) :
    Calls Tryz.prog 4 #[.agg #[.int .i64 st, .slice A n c, .int .i64 se, .int .i64 re, .int .i64 ag, .bool hv], .agg #[.int .i64 now, .int .i64 ppm]] w fun e w' => e = .returned (.bool true) ∧ Ext w w' := by
  have HBs := Lib.hid ((Blk.new w 26 #[.int .i64 st, .slice A n c, .int .i64 se, .int .i64 re, .int .i64 ag, .bool hv]).alloc (.cells #[.int .i64 now, .int .i64 ppm] 30))
  have HBm := Lib.hid (show Blk ((w.alloc (.cells #[.int .i64 st, .slice A n c, .int .i64 se, .int .i64 re, .int .i64 ag, .bool hv] 26)).alloc (.cells #[.int .i64 now, .int .i64 ppm] 30)) (w.heap.size + 1) 30 #[.int .i64 now, .int .i64 ppm] by
    have h := Blk.new (w.alloc (.cells #[.int .i64 st, .slice A n c, .int .i64 se, .int .i64 re, .int .i64 ag, .bool hv] 26)) 30 #[.int .i64 now, .int .i64 ppm]
    rw [World.size_alloc] at h; exact h)
  have HE := Lib.hid (((Ext.refl w).alloc (.cells #[.int .i64 st, .slice A n c, .int .i64 se, .int .i64 re, .int .i64 ag, .bool hv] 26)).alloc (.cells #[.int .i64 now, .int .i64 ppm] 30))
  go_enter Tryz.func4, Tryz.ntmps4
  go_wp2_with fail
  generalize (w.alloc (.cells #[.int .i64 st, .slice A n c, .int .i64 se, .int .i64 re, .int .i64 ag, .bool hv] 26)).alloc (.cells #[.int .i64 now, .int .i64 ppm] 30) = W0 at *
  generalize hbq : w.heap.size = b at *
  refine (law17_large A n c fs _ (hf.ext HE.out) hbk).mono ?_; rintro e w1 ⟨rfl, hb1⟩
  cases hlg : lg17 fs
  rotate_left
  · have s1 := (HBs.out.ext hb1).cell 1
    go_wp2_with fail
    refine (law17_large A n c fs _ (hf.ext (HE.out.trans hb1)) hbk).mono ?_; rintro e w2 ⟨rfl, hb2⟩
    rw [hlg]
    go_wp2_with fail
    go_ret
    exact ⟨rfl, HE.out.trans (hb1.trans hb2)⟩
  have Hs := Lib.hid (lg_no17 hlg)
  have Hbs := Lib.hid ((bsz_of_sumF fs).mono (show sumF fs ≤ 1048576 by omega))
  have hn : n ≤ 3000 := by have := hf.lenF; have := Hs.out; omega
  have Hm := Lib.hid hn
  clear hlg hbk hn
  go_wp2_with fail
  refine (law17_awake _ (hg.ext (HE.out.trans hb1)) (hgl.ext (HE.out.trans hb1))).mono ?_; rintro e w2 ⟨rfl, hb2⟩
  have HW2 := Lib.hid (hb1.trans hb2)
  clear hb1 hb2
  have HS2 := Lib.hid (HBs.out.ext HW2.out); have HM2 := Lib.hid (HBm.out.ext HW2.out)
  have HZ := Lib.hid (HE.out.trans HW2.out)
  clear HBs HBm
  go_wp2_with fail
  have hE := (Ext.refl w2).drew
  refine wp_region_held_drew (S := (fun w' => Blk w' b 26 #[.int .i64 st, .slice A n c, .int .i64 se, .int .i64 re, .int .i64 ag, .bool hv] ∧ w'.cell? ⟨b + 1, 0, none⟩ = some (.int .i64 now) ∧ w'.cell? ⟨b + 1, 1, none⟩ = some (.int .i64 ppm))) (by kernel_rfl) ?_ (fun hHeld => ?_)
  · (try dsimp only); exact ⟨HS2.out.ext hE, (HM2.out.ext hE).cell 0, (HM2.out.ext hE).cell 1⟩
  refine wpAnyH_take (i := 0) (oi := { dst := some 15, op := _, type := _, pos := _, after := _, guard := _ }) (v := .agg #[.int .i64 st, .slice A n c, .int .i64 se, .int .i64 re, .int .i64 ag, .bool hv]) rfl (by kernel_rfl) (by kernel_rfl) (by kernel_rfl) (fun _ _ _ h => h) (yield_loadB rfl 26 (.tmp 2) rfl (b) rfl 26 _ (fun w h => h.1) _ Tryz.underlying26 infoRs) (by assumption) ?_
  (try simp only [Act.put, List.setIfInBounds_toArray, List.set_cons_zero, List.set_cons_succ])
  refine wpAnyH_take (i := 2) (oi := { dst := some 17, op := _, type := _, pos := _, after := _, guard := _ }) (v := ?_) rfl (by kernel_rfl) (by kernel_rfl) (by kernel_rfl) (fun _ _ _ h => h) (Or.inl ⟨by rfl, ?_⟩) (by assumption) ?_
  rotate_left
  · (intro w hSw; (try dsimp only at hSw); go_simp; (try with_reducible rfl))
  (try simp only [Act.put, List.setIfInBounds_toArray, List.set_cons_zero, List.set_cons_succ])
  refine wpAnyH_take (i := 3) (oi := { dst := some 18, op := _, type := _, pos := _, after := _, guard := _ }) (v := ?_) rfl (by kernel_rfl) (by kernel_rfl) (by kernel_rfl) (fun _ _ _ h => h) (Or.inl ⟨by rfl, ?_⟩) (by assumption) ?_
  rotate_left
  · (intro w hSw; (try dsimp only at hSw); go_simp; (try with_reducible rfl))
  (try simp only [Act.put, List.setIfInBounds_toArray, List.set_cons_zero, List.set_cons_succ])
  refine wpAnyH_take (i := 4) (oi := { dst := some 19, op := _, type := _, pos := _, after := _, guard := _ }) (v := ?_) rfl (by kernel_rfl) (by kernel_rfl) (by kernel_rfl) (fun _ _ _ h => h) (Or.inl ⟨by rfl, ?_⟩) (by assumption) ?_
  rotate_left
  · (intro w hSw; (try dsimp only at hSw); go_simp; (try with_reducible rfl))
  (try simp only [Act.put, List.setIfInBounds_toArray, List.set_cons_zero, List.set_cons_succ])
  refine wpAnyH_take (i := 5) (oi := { dst := some 20, op := _, type := _, pos := _, after := _, guard := _ }) (v := ?_) rfl (by kernel_rfl) (by kernel_rfl) (by kernel_rfl) (fun _ _ _ h => h) (Or.inl ⟨by rfl, ?_⟩) (by assumption) ?_
  rotate_left
  · (intro w hSw; (try dsimp only at hSw); go_simp; (try with_reducible rfl))
  (try simp only [Act.put, List.setIfInBounds_toArray, List.set_cons_zero, List.set_cons_succ])
  refine wpAnyH_take (i := 7) (oi := { dst := some 22, op := _, type := _, pos := _, after := _, guard := _ }) (v := .agg #[.int .i64 st, .slice A n c, .int .i64 se, .int .i64 re, .int .i64 ag, .bool hv]) rfl (by kernel_rfl) (by kernel_rfl) (by kernel_rfl) (fun _ _ _ h => h) (yield_loadB rfl 26 (.tmp 2) rfl (b) rfl 26 _ (fun w h => h.1) _ Tryz.underlying26 infoRs) (by assumption) ?_
  (try simp only [Act.put, List.setIfInBounds_toArray, List.set_cons_zero, List.set_cons_succ])
  refine wpAnyH_take (i := 8) (oi := { dst := some 23, op := _, type := _, pos := _, after := _, guard := _ }) (v := ?_) rfl (by kernel_rfl) (by kernel_rfl) (by kernel_rfl) (fun _ _ _ h => h) (Or.inl ⟨by rfl, ?_⟩) (by assumption) ?_
  rotate_left
  · (intro w hSw; (try dsimp only at hSw); go_simp; (try with_reducible rfl))
  (try simp only [Act.put, List.setIfInBounds_toArray, List.set_cons_zero, List.set_cons_succ])
  refine wpAnyH_take (i := 9) (oi := { dst := some 24, op := _, type := _, pos := _, after := _, guard := _ }) (v := ?_) rfl (by kernel_rfl) (by kernel_rfl) (by kernel_rfl) (fun _ _ _ h => h) (Or.inl ⟨by rfl, ?_⟩) (by assumption) ?_
  rotate_left
  · (intro w hSw; (try dsimp only at hSw); go_simp; (try with_reducible rfl))
  (try simp only [Act.put, List.setIfInBounds_toArray, List.set_cons_zero, List.set_cons_succ])
  refine wpAnyH_take (i := 10) (oi := { dst := some 25, op := _, type := _, pos := _, after := _, guard := _ }) (v := ?_) rfl (by kernel_rfl) (by kernel_rfl) (by kernel_rfl) (fun _ _ _ h => h) (Or.inl ⟨by rfl, ?_⟩) (by assumption) ?_
  rotate_left
  · (intro w hSw; (try dsimp only at hSw); go_simp; (try with_reducible rfl))
  (try simp only [Act.put, List.setIfInBounds_toArray, List.set_cons_zero, List.set_cons_succ])
  refine wpAnyH_take (i := 11) (oi := { dst := some 26, op := _, type := _, pos := _, after := _, guard := _ }) (v := ?_) rfl (by kernel_rfl) (by kernel_rfl) (by kernel_rfl) (fun _ _ _ h => h) (Or.inl ⟨by rfl, ?_⟩) (by assumption) ?_
  rotate_left
  · (intro w hSw; (try dsimp only at hSw); go_simp; (try with_reducible rfl))
  (try simp only [Act.put, List.setIfInBounds_toArray, List.set_cons_zero, List.set_cons_succ])
  refine wpAnyH_ready (rs := [1]) (by kernel_rfl) (by simp) ?_
  refine AllReadyH.cons (o := { dst := some 16, op := _, type := _, pos := _, after := _, guard := _ }) rfl (fun K hK => ?_) AllReadyH.nil
  go_simp
  refine (law17_Stored st A n c fs se re ag hv _ (hf.ext (HZ.out.trans hE)) (by have := Hm.out; omega)).mono ?_; rintro e w3 ⟨A2, c2, rfl, hx3, _, hb3, _⟩; replace hE := hE.trans hb3; clear hb3
  try go_wp2_with fail
  refine hK.out _ _ ?_ (fun hHeld => ?_)
  · (try dsimp only); exact ⟨HS2.out.ext hE, (HM2.out.ext hE).cell 0, (HM2.out.ext hE).cell 1⟩
  clear hK K
  (try simp only [Act.put, List.setIfInBounds_toArray, List.set_cons_zero, List.set_cons_succ])
  refine wpAnyH_ready (rs := [6]) (by kernel_rfl) (by simp) ?_
  refine AllReadyH.cons (o := { dst := some 21, op := _, type := _, pos := _, after := _, guard := _ }) rfl (fun K hK => ?_) AllReadyH.nil
  go_simp
  refine (policy_OnError st A2 n c2 fs se re ag hv now ppm _ hx3 (by have := Hm.out; omega) Hbs.out (hg.ext (HZ.out.trans hE)) (by have := Hs.out; have := Hm.out; omega) (hgl.ext (HZ.out.trans hE))).mono ?_; rintro e w5 ⟨rfl, hb5⟩; replace hE := hE.trans hb5; clear hb5; clear hx3
  try go_wp2_with fail
  refine hK.out _ _ ?_ (fun hHeld => ?_)
  · (try dsimp only); exact ⟨HS2.out.ext hE, (HM2.out.ext hE).cell 0, (HM2.out.ext hE).cell 1⟩
  clear hK K
  (try simp only [Act.put, List.setIfInBounds_toArray, List.set_cons_zero, List.set_cons_succ])
  refine wpAnyH_ready (rs := [12]) (by kernel_rfl) (by simp) ?_
  refine AllReadyH.cons (o := { dst := some 27, op := _, type := _, pos := _, after := _, guard := _ }) rfl (fun K hK => ?_) AllReadyH.nil
  go_simp
  refine (ref17_OnError st A n c fs se re ag hv now ppm _ (hf.ext (HZ.out.trans hE)) (by have := Hm.out; omega) Hbs.out).mono ?_; rintro e w5 ⟨rfl, hb5⟩; replace hE := hE.trans hb5; clear hb5
  try go_wp2_with fail
  refine hK.out _ _ ?_ (fun hHeld => ?_)
  · (try dsimp only); exact ⟨HS2.out.ext hE, (HM2.out.ext hE).cell 0, (HM2.out.ext hE).cell 1⟩
  clear hK K
  (try simp only [Act.put, List.setIfInBounds_toArray, List.set_cons_zero, List.set_cons_succ])
  refine wpAnyH_take (i := 13) (oi := { dst := some 28, op := _, type := _, pos := _, after := _, guard := _ }) (v := ?_) rfl (by kernel_rfl) (by kernel_rfl) (by kernel_rfl) (fun _ _ _ h => h) (Or.inl ⟨by rfl, ?_⟩) (by assumption) ?_
  rotate_left
  · (intro w hSw; (try dsimp only at hSw); go_simp; (try with_reducible rfl))
  (try simp only [Act.put, List.setIfInBounds_toArray, List.set_cons_zero, List.set_cons_succ])
  refine wpAnyH_take (i := 14) (oi := { dst := some 29, op := _, type := _, pos := _, after := _, guard := _ }) (v := ?_) rfl (by kernel_rfl) (by kernel_rfl) (by kernel_rfl) (fun _ _ _ h => h) (Or.inl ⟨by rfl, ?_⟩) (by assumption) ?_
  rotate_left
  · (intro w hSw; (try dsimp only at hSw); go_simp; (try with_reducible rfl))
  (try simp only [Act.put, List.setIfInBounds_toArray, List.set_cons_zero, List.set_cons_succ])
  refine wpAnyH_take (i := 15) (oi := { dst := some 30, op := _, type := _, pos := _, after := _, guard := _ }) (v := .agg #[.int .i64 st, .slice A n c, .int .i64 se, .int .i64 re, .int .i64 ag, .bool hv]) rfl (by kernel_rfl) (by kernel_rfl) (by kernel_rfl) (fun _ _ _ h => h) (yield_loadG (by rfl) 26 (.tmp 2) rfl (b) rfl 26 _ (fun w h => h.1) _ Tryz.underlying26 infoRs) (by assumption) ?_
  (try simp only [Act.put, List.setIfInBounds_toArray, List.set_cons_zero, List.set_cons_succ])
  refine wpAnyH_take (i := 18) (oi := { dst := some 33, op := _, type := _, pos := _, after := _, guard := _ }) (v := .agg #[.int .i64 st, .slice A n c, .int .i64 se, .int .i64 re, .int .i64 ag, .bool hv]) rfl (by kernel_rfl) (by kernel_rfl) (by kernel_rfl) (fun _ _ _ h => h) (yield_loadG (by rfl) 26 (.tmp 2) rfl (b) rfl 26 _ (fun w h => h.1) _ Tryz.underlying26 infoRs) (by assumption) ?_
  (try simp only [Act.put, List.setIfInBounds_toArray, List.set_cons_zero, List.set_cons_succ])
  refine wpAnyH_ready (rs := [16]) (by kernel_rfl) (by simp) ?_
  refine AllReadyH.cons (o := { dst := some 31, op := _, type := _, pos := _, after := _, guard := _ }) rfl (fun K hK => ?_) AllReadyH.nil
  go_simp
  refine (law17_Stored st A n c fs se re ag hv _ (hf.ext (HZ.out.trans hE)) (by have := Hm.out; omega)).mono ?_; rintro e w3 ⟨A2, c2, rfl, hx3, _, hb3, _⟩; replace hE := hE.trans hb3; clear hb3
  try go_wp2_with fail
  refine hK.out _ _ ?_ (fun hHeld => ?_)
  · (try dsimp only); exact ⟨HS2.out.ext hE, (HM2.out.ext hE).cell 0, (HM2.out.ext hE).cell 1⟩
  clear hK K
  (try simp only [Act.put, List.setIfInBounds_toArray, List.set_cons_zero, List.set_cons_succ])
  refine wpAnyH_ready (rs := [17]) (by kernel_rfl) (by simp) ?_
  refine AllReadyH.cons (o := { dst := some 32, op := _, type := _, pos := _, after := _, guard := _ }) rfl (fun K hK => ?_) AllReadyH.nil
  go_simp
  refine (policy_Limit st A2 n c2 fs se re ag hv _ hx3 (by have := Hm.out; omega) Hbs.out (hg.ext (HZ.out.trans hE)) (by have := Hs.out; have := Hm.out; omega) (hgl.ext (HZ.out.trans hE))).mono ?_; rintro e w5 ⟨rfl, hb5⟩; replace hE := hE.trans hb5; clear hb5
  try go_wp2_with fail
  refine hK.out _ _ ?_ (fun hHeld => ?_)
  · (try dsimp only); exact ⟨HS2.out.ext hE, (HM2.out.ext hE).cell 0, (HM2.out.ext hE).cell 1⟩
  clear hK K
  (try simp only [Act.put, List.setIfInBounds_toArray, List.set_cons_zero, List.set_cons_succ])
  refine wpAnyH_ready (rs := [19]) (by kernel_rfl) (by simp) ?_
  refine AllReadyH.cons (o := { dst := some 34, op := _, type := _, pos := _, after := _, guard := _ }) rfl (fun K hK => ?_) AllReadyH.nil
  go_simp
  refine (ref17_Limit st A n c fs se re ag hv _ (hf.ext (HZ.out.trans hE)) (by have := Hm.out; omega) Hbs.out).mono ?_; rintro e w5 ⟨rfl, hb5⟩; replace hE := hE.trans hb5; clear hb5
  try go_wp2_with fail
  refine hK.out _ _ ?_ (fun hHeld => ?_)
  · (try dsimp only); exact ⟨HS2.out.ext hE, (HM2.out.ext hE).cell 0, (HM2.out.ext hE).cell 1⟩
  clear hK K
  (try simp only [Act.put, List.setIfInBounds_toArray, List.set_cons_zero, List.set_cons_succ])
  refine wpAnyH_take (i := 20) (oi := { dst := some 35, op := _, type := _, pos := _, after := _, guard := _ }) (v := ?_) rfl (by kernel_rfl) (by kernel_rfl) (by kernel_rfl) (fun _ _ _ h => h) (Or.inl ⟨by rfl, ?_⟩) (by assumption) ?_
  rotate_left
  · (intro w hSw; (try dsimp only at hSw); go_simp; (try with_reducible rfl))
  (try simp only [Act.put, List.setIfInBounds_toArray, List.set_cons_zero, List.set_cons_succ])
  refine wpAnyH_take (i := 21) (oi := { dst := some 36, op := _, type := _, pos := _, after := _, guard := _ }) (v := ?_) rfl (by kernel_rfl) (by kernel_rfl) (by kernel_rfl) (fun _ _ _ h => h) (Or.inl ⟨by rfl, ?_⟩) (by assumption) ?_
  rotate_left
  · (intro w hSw; (try dsimp only at hSw); go_simp; (try with_reducible rfl))
  (try simp only [Act.put, List.setIfInBounds_toArray, List.set_cons_zero, List.set_cons_succ])
  refine wpAnyH_take (i := 22) (oi := { dst := some 4, op := _, type := _, pos := _, after := _, guard := _ }) (v := ?_) rfl (by kernel_rfl) (by kernel_rfl) (by kernel_rfl) (fun _ _ _ h => h) (Or.inl ⟨by rfl, ?_⟩) (by assumption) ?_
  rotate_left
  · (intro w hSw; (try dsimp only at hSw); go_simp; (try with_reducible rfl))
  (try simp only [Act.put, List.setIfInBounds_toArray, List.set_cons_zero, List.set_cons_succ])
  refine wpAnyH_done (by kernel_rfl) ?_ _
  go_wp2_with fail
  go_ret
  exact ⟨rfl, HZ.out.trans hE⟩
end Go.Proofs.YtocniclkooiggaaGreatDoor

namespace Go.Proofs.YtocniclkooiggaaGreatDoor
open Go.ChangeShapes Go.WideShapes Go.Deep Go.RowKit

/-- Type e is a struct of two strings. -/
def TwoStr (P : Program) (e S : TypeId) : Prop := ∃ f0 f1, P.underlying e = some (.struct #[f0, f1]) ∧ f0.type = S ∧ f1.type = S ∧ f0.offset = 0 ∧ f1.offset = 1 ∧ P.underlying S = some .string ∧ P.cellsOf S = 1 ∧ P.cellsOf e = 2

section
variable {H : Type} {enc : TypeId × Value → H} {P : Program} {w : World} {base : Nat} {spare : Nat → Bool} {held : Bool}

theorem trod_twoStr {e S : TypeId} {fuel : Nat} {cs : List Value} {x : DataW H × List MemPlace} (he : TwoStr P e S) (h : DataW.trod enc P w base spare held fuel e cs = some x) :
    ∃ a b : ByteArray, cs = [.string a, .string b] ∧ x.1 = .agg [.lit (.string a.data.toList), .lit (.string b.data.toList)] ∧ a.size ≤ maxLen ∧ b.size ≤ maxLen := by
  obtain ⟨f0, f1, hu, t0, t1, o0, o1, hS, hc, hce⟩ := he
  obtain ⟨y0, y1, n, rfl, hl, h0, h1⟩ := trod_struct2 hu h
  rw [t0, o0, hc] at h0
  rw [t1, o1, hc] at h1
  rw [hce] at hl
  match cs, hl with
  | [c0, c1], _ =>
    simp only [List.drop_zero, List.take_succ_cons, List.take_zero] at h0
    simp only [List.drop_succ_cons, List.drop_zero, List.take_succ_cons, List.take_zero] at h1
    obtain ⟨a, ha, rfl, ha2⟩ := DataW.trod_string hS h0
    obtain ⟨b, hb, rfl, hb2⟩ := DataW.trod_string hS h1
    simp only [List.cons.injEq, and_true] at ha hb
    subst ha; subst hb
    exact ⟨a, b, rfl, rfl, ha2, hb2⟩

theorem sz_data (a : ByteArray) : a.data.toList.length = a.size := by rw [Array.length_toList]; rfl

theorem weightsAll_mem {e : TypeId} {n : Nat} : ∀ {l : List (DataW H)} {i : Nat} {d : DataW H}, l[i]? = some d → n ∈ d.weights P e → n ∈ DataW.weightsAll P e l
  | d0 :: l, 0, d, hd, hn => by
    simp only [List.getElem?_cons_zero, Option.some.injEq] at hd
    subst hd
    simp only [DataW.weightsAll, List.mem_append]
    exact Or.inl hn
  | d0 :: l, i + 1, d, hd, hn => by
    simp only [List.getElem?_cons_succ] at hd
    simp only [DataW.weightsAll, List.mem_append]
    exact Or.inr (weightsAll_mem hd hn)
  | [], _, _, hd, _ => by simp at hd

/-- A slice of pairs of strings, opened. -/
theorem open_flds {t e S : TypeId} {A : Option Addr} {n c : Nat} {d : DataW H} {p : List MemPlace} (ht : P.underlying t = some (.slice e)) (he : TwoStr P e S)
    (h : DataW.Trod enc P w base spare held t (.slice A n c) d p) :
    ∃ L : List Fd, RdF w A n L ∧ n ≤ maxLen ∧ n ≤ c ∧ (∀ B, (∀ x ∈ d.weights P t, x ≤ B) → Bsz B L ∧ n * P.bytesOf e ≤ B) := by
  obtain ⟨fuel, hf⟩ := h
  have hf' : DataW.trod enc P w base spare held fuel t [.slice A n c] = some (d, p) := by simpa [Value.cells] using hf
  rcases open_slice ht hf' with ⟨hcs, hx⟩ | ⟨a, len, cap, m, k, D, Pl, hcs, hb, hl, hm, hmm, hx, hi⟩
  · simp only [List.cons.injEq, Value.slice.injEq, and_true] at hcs
    obtain ⟨rfl, rfl, rfl⟩ := hcs
    exact ⟨[], Rd.none_ _ _ _, by simp [maxLen], Nat.le_refl _, fun B _ => ⟨by intro f hf; simp at hf, by simp⟩⟩
  · simp only [List.cons.injEq, Value.slice.injEq, and_true] at hcs
    obtain ⟨rfl, rfl, rfl⟩ := hcs
    obtain ⟨f0, f1, hu, t0, t1, o0, o1, hS, hc, hce⟩ := id he
    rw [hce] at hi
    have hnm : n ≤ m := by rw [hmm]; split <;> omega
    obtain ⟨F, hF⟩ := choose_lt (α := Fd) (n := m) (p := fun i f => w.cell? (a.add (i * 2)) = some (.string f.1) ∧ w.cell? (a.add (i * 2 + 1)) = some (.string f.2) ∧ D i = .agg [.lit (.string f.1.data.toList), .lit (.string f.2.data.toList)]) (fun i him => by
      obtain ⟨cs', h1, h2⟩ := hi i him
      obtain ⟨_, _, hat⟩ := World.cells?_some h1
      obtain ⟨u, v, rfl, hd, _, _⟩ := trod_twoStr he h2
      have c0 := hat 0 (by omega)
      have c1 := hat 1 (by omega)
      rw [Go.Deep.add_add] at c0 c1
      exact ⟨(u, v), by simpa using c0, by simpa using c1, hd⟩)
    have hlen : ((List.range n).map F).length = n := by simp
    refine ⟨(List.range n).map F, ⟨by rw [fldCells_len, hlen], fun hpos => ?_⟩, by omega, hl, fun B hB => ⟨fun f hf => ?_, ?_⟩⟩
    · have hn0 : 0 < n := by rw [fldCells_len, hlen] at hpos; omega
      obtain ⟨b, o, sp⟩ := a
      have hsp : sp = none := by simpa [Addr.add] using World.cell?_spot (hF 0 (by omega)).1
      subst hsp
      refine ⟨b, o, rfl, fun j u hj => ?_⟩
      have hjl : j < n * 2 := by
        have := (List.getElem?_eq_some_iff.1 hj).1
        rw [fldCells_len, hlen] at this; exact this
      have hlt : j / 2 < ((List.range n).map F).length := by rw [hlen]; omega
      have hcells := hF (j / 2) (by omega)
      rw [add_plain, add_plain] at hcells
      have hFe : ((List.range n).map F)[j / 2] = F (j / 2) := by simp
      rcases Nat.mod_two_eq_zero_or_one j with h0 | h1
      · have e : j = j / 2 * 2 := by omega
        rw [e, fldCells_at0 _ _ hlt, hFe] at hj
        rw [e, ← hj]
        have e2 : j / 2 * 2 / 2 = j / 2 := by omega
        exact hcells.1
      · have e : j = j / 2 * 2 + 1 := by omega
        rw [e, fldCells_at1 _ _ hlt, hFe] at hj
        rw [e, ← hj]
        exact hcells.2.1
    · simp only [List.mem_map, List.mem_range] at hf
      obtain ⟨i, hin, rfl⟩ := hf
      have hd := (hF i (by omega)).2.2
      have hx1 : d = DataW.slice ((List.range n).map D) ((List.range (m - n)).map fun j => D (n + j)) := congrArg Prod.fst hx
      have hw : ∀ x ∈ (D i).weights P e, x ≤ B := fun x hxm => hB x (by
        rw [hx1]
        simp only [DataW.weights, ht, List.mem_cons, List.mem_append]
        exact Or.inr (Or.inl (weightsAll_mem (i := i) (by simp [hin]) hxm)))
      rw [hd] at hw
      simp only [DataW.weights, hu, DataW.weightsEach, List.map_cons, List.map_nil] at hw
      simp only [List.append_nil, List.mem_append, List.mem_singleton] at hw
      exact ⟨by rw [← sz_data]; exact hw _ (Or.inl rfl), by rw [← sz_data]; exact hw _ (Or.inr rfl)⟩
    · have hx1 : d = DataW.slice ((List.range n).map D) ((List.range (m - n)).map fun j => D (n + j)) := congrArg Prod.fst hx
      have := hB ((((List.range n).map D).length + ((List.range (m - n)).map fun j => D (n + j)).length) * P.bytesOf e) (by
        rw [hx1]
        simp [DataW.weights, ht])
      simp only [List.length_map, List.length_range] at this
      exact Nat.le_trans (Nat.mul_le_mul_right _ (by omega)) this
end

/-- An array of two strings by value, opened. -/
theorem open_arr2 {H : Type} {enc : TypeId × Value → H} {P : Program} {w : World} {base : Nat} {spare : Nat → Bool} {held : Bool} {t S : TypeId} {v : Value} {d : DataW H} {p : List MemPlace} {r : Reach} {b0 : Nat}
    (ht : P.underlying t = some (.array 2 S)) (hS : P.underlying S = some .string) (hc : P.cellsOf S = 1) (hct : P.cellsOf t = 2) (hv : Value.okWide P w r b0 t v) (h : DataW.Trod enc P w base spare held t v d p) :
    ∃ a b : ByteArray, v = .agg #[.string a, .string b] ∧ (∀ B, (∀ x ∈ d.weights P t, x ≤ B) → a.size ≤ B ∧ b.size ≤ B) := by
  simp only [Value.okWide, ht] at hv
  obtain ⟨cs, rfl, hsz, _⟩ := hv
  rw [hct] at hsz
  obtain ⟨fuel, hf⟩ := h
  obtain ⟨xs, m, _, hx, _, hlen, hg⟩ := DataW.trod_array ht hf
  obtain ⟨l⟩ := cs
  match l, hsz with
  | [c0, c1], _ =>
    match xs, hlen with
    | [y0, y1], _ =>
      have g0 := hg 0 (by omega)
      have g1 := hg 1 (by omega)
      simp only [Value.cells, hc, Nat.zero_mul, List.drop_zero, List.take_succ_cons, List.take_zero, List.getElem?_cons_zero] at g0
      simp only [Value.cells, hc, Nat.one_mul, List.drop_succ_cons, List.drop_zero, List.take_succ_cons, List.take_zero, List.getElem?_cons_succ, List.getElem?_cons_zero] at g1
      obtain ⟨a, ha, ha1, _⟩ := DataW.trod_string hS g0
      obtain ⟨b, hb, hb1, _⟩ := DataW.trod_string hS g1
      simp only [List.cons.injEq, and_true] at ha hb
      subst ha; subst hb; subst ha1; subst hb1
      refine ⟨a, b, rfl, fun B hB => ?_⟩
      have hd := congrArg Prod.fst hx
      simp only [List.map_cons, List.map_nil] at hd
      rw [hd] at hB
      simp only [DataW.weights, ht, DataW.weightsAll, List.append_nil, List.mem_append, List.mem_singleton] at hB
      exact ⟨by rw [← sz_data]; exact hB _ (Or.inl rfl), by rw [← sz_data]; exact hB _ (Or.inr rfl)⟩

/-- What one argument weighs, out of what all do. -/
theorem weights_one {H : Type} {P : Program} {ts : List TypeId} {ds : List (DataW H)} (h : (DataW.weightsEach P ts ds).all (· ≤ reachBytes) = true) {j : Nat} {t : TypeId} {d : DataW H}
    (ht : ts[j]? = some t) (hd : ds[j]? = some d) : ∀ x ∈ d.weights P t, x ≤ 140737488351232 := fun x hx => by
  have := List.all_eq_true.1 h _ (DataW.weights_mem_each ht hd x hx)
  exact of_decide_eq_true this
end Go.Proofs.YtocniclkooiggaaGreatDoor

namespace Go.Proofs.YtocniclkooiggaaGreatDoor
open Go.ChangeShapes Go.WideShapes Go.Deep Go.RowKit

theorem bulk_app {H : Type} (l r : List (DataW H)) : Rows.uptoBulkAll (l ++ r) = Rows.uptoBulkAll l + Rows.uptoBulkAll r := by
  induction l with
  | nil => simp [Rows.uptoBulkAll]
  | cons x l ih => simp only [List.cons_append, Rows.uptoBulkAll, ih]; omega
theorem bulk_strs {H : Type} (l : List ByteArray) : Rows.uptoBulkAll (H := H) (l.map fun s => DataW.lit (.string s.data.toList)) = l.length + totS l := by
  induction l with
  | nil => rfl
  | cons x l ih =>
    simp only [List.map_cons, Rows.uptoBulkAll, ih, Rows.uptoBulk, List.length_cons, totS, List.sum_cons, Array.length_toList]
    show x.size + 1 + _ = _
    omega
theorem bulk_flds {H : Type} (l : List Fd) : Rows.uptoBulkAll (H := H) (l.map fun f => DataW.agg [.lit (.string f.1.data.toList), .lit (.string f.2.data.toList)]) = 3 * l.length + sumF l := by
  induction l with
  | nil => rfl
  | cons x l ih =>
    simp only [List.map_cons, Rows.uptoBulkAll, ih, Rows.uptoBulk, List.length_cons, sumF, List.sum_cons, Array.length_toList]
    show (x.1.size + 1) + ((x.2.size + 1) + 0) + 1 + _ = _
    omega
/-- The bound of an Upto statement. -/
theorem bulk_of {H : Type} {l : List (DataW H)} (hk : Rows.uptoSmall H l = true) : Rows.uptoBulkAll l ≤ 1048576 := of_decide_eq_true hk

section
variable {H : Type} {enc : TypeId × Value → H} {P : Program} {w : World} {base : Nat} {spare : Nat → Bool} {held : Bool}
/-- A slice of strings, opened. -/
theorem open_strsL {t e : TypeId} {A : Option Addr} {n c : Nat} {d : DataW H} {p : List MemPlace} (ht : P.underlying t = some (.slice e)) (he : P.underlying e = some .string) (hce : P.cellsOf e = 1)
    (h : DataW.Trod enc P w base spare held t (.slice A n c) d p) :
    ∃ L : List ByteArray, RdS w A n L ∧ n ≤ maxLen ∧ n ≤ c ∧ L.length + totS L + 1 ≤ Rows.uptoBulk d := by
  obtain ⟨fuel, hf⟩ := h
  have hf' : DataW.trod enc P w base spare held fuel t [.slice A n c] = some (d, p) := by simpa [Value.cells] using hf
  rcases open_strings ht he hce hf' with ⟨hcs, hx⟩ | ⟨a, len, cap, ss, hcs, hb, hl, hm, hlen, hx, hi⟩
  · simp only [List.cons.injEq, Value.slice.injEq, and_true] at hcs
    obtain ⟨rfl, rfl, rfl⟩ := hcs
    obtain rfl : d = .nil := congrArg Prod.fst hx
    exact ⟨[], Rd.none_ _ _ _, by simp [maxLen], Nat.le_refl _, by simp [totS, Rows.uptoBulk]⟩
  · simp only [List.cons.injEq, Value.slice.injEq, and_true] at hcs
    obtain ⟨rfl, rfl, rfl⟩ := hcs
    have hnl : n ≤ ss.length := by rw [hlen]; split <;> omega
    have htl : (ss.take n).length = n := by rw [List.length_take]; omega
    refine ⟨ss.take n, ⟨by simp; omega, fun hpos => ?_⟩, by omega, hl, ?_⟩
    · obtain ⟨b, o, sp⟩ := a
      have h0 : 0 < ss.length := by
        rw [List.length_map, htl] at hpos; omega
      have hc0 := hi.1 0 h0
      have hsp : sp = none := by simpa [Addr.add] using World.cell?_spot hc0
      subst hsp
      refine ⟨b, o, rfl, fun j u hu => ?_⟩
      rw [List.getElem?_map, List.getElem?_take] at hu
      split at hu
      · rename_i hjn
        obtain ⟨s, hs, rfl⟩ := Option.map_eq_some_iff.1 hu
        obtain ⟨hjl, he⟩ := List.getElem?_eq_some_iff.1 hs
        have := hi.1 j hjl
        rw [add_plain, List.getD_eq_getElem?_getD, hs] at this
        exact this
      · simp at hu
    · obtain rfl : d = _ := congrArg Prod.fst hx
      simp only [Rows.uptoBulk]
      have := bulk_strs (H := H) (ss.take n)
      unfold strs
      omega
end

/-- THERE IS AN INPUT THAT FITS: a row that lists variables. -/
theorem witU {H : Type} {enc : TypeId × Value → H} {C : Checked} {os : Os} {f : FuncId} {fn : Func} {s : OpenSpec} {conds : List PathCond} {apart : Bool} {laid : List (String × DataW Unit)} (args : Array Value)
    (hv : ((World.laidAll C.prog os laid).forCall (fun _ _ => 0) ⟨#[], args, []⟩).variablesZipB C.prog = true)
    (hr : (((World.laidAll C.prog os laid).forCall (fun _ _ => 0) ⟨#[], args, []⟩).heap.toList.drop C.prog.globals.size).take ((begin C.prog (fun _ _ => 0) default).world.heap.size - C.prog.globals.size) =
      (begin C.prog (fun _ _ => 0) default).world.heap.toList.drop C.prog.globals.size)
    (hok : Input.okWideB C.prog ((World.laidAll C.prog os laid).forCall (fun _ _ => 0) ⟨#[], args, []⟩) f ⟨#[], args, []⟩ = true)
    (hrow : s.preRow enc C.prog fn conds apart laid ((World.laidAll C.prog os laid).forCall (fun _ _ => 0) ⟨#[], args, []⟩).memory args) :
    ∃ (w : World) (tape : Tape) (i : Input), w.os = os ∧ (w.forCall tape i).Shaped C.prog ∧ i.vars = [] ∧ Input.okWide C.prog (w.forCall tape i) .any w.heap.size f i ∧
      s.preRow enc C.prog fn conds apart laid (w.forCall tape i).memory i.args ∧ ({} : Assume).holds C.prog (lone (Frame.enter C.prog f i.args .normal) [] (w.forCall tape i)) :=
  ⟨World.laidAll C.prog os laid, fun _ _ => 0, ⟨#[], args, []⟩, World.laidAll_os _ _ _, World.shaped_of_ZipB hv hr, (Input.okWide_of_okWideB (base := 0) hok).1, (Input.okWide_of_okWideB hok).2, hrow, by
    simp only [Assume.holds]
    exact ⟨by simp, by simp, fun _ => Modest.zero, by simp, by simp⟩⟩
end Go.Proofs.YtocniclkooiggaaGreatDoor

namespace Go.Proofs.YtocniclkooiggaaGreatDoor
open Go.ChangeShapes Go.WideShapes Go.RowKit Go.Deep Go.Joins
section
variable {H : Type} {enc : TypeId × Value → H} {w : World} {base : Nat} {spare : Nat → Bool} {held : Bool}
theorem c_slice {P : Program} {t e : TypeId} {fuel : Nat} {cs : List Value} {x : DataW H × List MemPlace} (ht : P.underlying t = some (.slice e)) (h : DataW.trod enc P w base spare held fuel t cs = some x) :
    ∃ A n c, cs = [.slice A n c] ∧ DataW.Trod enc P w base spare held t (.slice A n c) x.1 x.2 := by
  rcases open_slice ht h with ⟨rfl, hx⟩ | ⟨a, len, cap, m, k, D, Pl, rfl, hb, hl, hm, hmm, hx, hi⟩
  · exact ⟨_, _, _, rfl, fuel, by simpa [Value.cells] using h⟩
  · exact ⟨_, _, _, rfl, fuel, by simpa [Value.cells] using h⟩
theorem open_agg {P : Program} {r : Reach} {b0 : Nat} {t : TypeId} {fs : Array Field} {v : Value} {d : DataW H} {p : List MemPlace} (hs : P.underlying t = some (.struct fs)) (hv : Value.okWide P w r b0 t v) (h : DataW.Trod enc P w base spare held t v d p) :
    ∃ (cs : Array Value) (fuel : Nat), v = .agg cs ∧ DataW.trod enc P w base spare held fuel t cs.toList = some (d, p) := by
  obtain ⟨cs, rfl, hsz⟩ := okWide_struct hs hv
  obtain ⟨fuel, hf⟩ := h
  exact ⟨cs, fuel, rfl, by simpa [Value.cells] using hf⟩
set_option maxRecDepth 100000 in
theorem c_Dr {fuel : Nat} {cs : List Value} {x : DataW H × List MemPlace} (h : DataW.trod enc Tryz.prog w base spare held fuel 28 cs = some x) :
    ∃ (x_0 : Bool) (x_1 : Bool) (x_2 : Bool) (x_3 : Bool) (x_4 : Bool) (x_5 : Bool) (x_6 : Int) (x_7 : Int) (x_8 : Int) (x_9 : Int) (x_10 : Int) (x_11 : Int), cs = [.bool x_0, .bool x_1, .bool x_2, .bool x_3, .bool x_4, .bool x_5, .int .i64 x_6, .int .i64 x_7, .int .i64 x_8, .int .i64 x_9, .int .i64 x_10, .int .i64 x_11] ∧ x.1 = .agg [.lit (.bool x_0), .lit (.bool x_1), .lit (.bool x_2), .lit (.bool x_3), .lit (.bool x_4), .lit (.bool x_5), .lit (.int .i64 x_6), .lit (.int .i64 x_7), .lit (.int .i64 x_8), .lit (.int .i64 x_9), .lit (.int .i64 x_10), .lit (.int .i64 x_11)] ∧ ((Lit.int .i64 x_6).wf = true ∧ (Lit.int .i64 x_7).wf = true ∧ (Lit.int .i64 x_8).wf = true ∧ (Lit.int .i64 x_9).wf = true ∧ (Lit.int .i64 x_10).wf = true ∧ (Lit.int .i64 x_11).wf = true) := by
  obtain ⟨xs, n, _, rfl, hl, hlen, hf⟩ := DataW.trod_struct Tryz.underlying28 h
  rw [show Tryz.prog.cellsOf 28 = 12 from by kernel_rfl] at hl
  match cs, hl with
  | [c0, c1, c2, c3, c4, c5, c6, c7, c8, c9, c10, c11], _ =>
  have hlen : xs.length = 12 := hlen
  match xs, hlen with
  | [y0, y1, y2, y3, y4, y5, y6, y7, y8, y9, y10, y11], _ =>
    have g0 : DataW.trod enc Tryz.prog w base spare held n 4 (([c0, c1, c2, c3, c4, c5, c6, c7, c8, c9, c10, c11].drop 0).take (Tryz.prog.cellsOf 4)) = [y0, y1, y2, y3, y4, y5, y6, y7, y8, y9, y10, y11][0]? := hf 0 _ rfl
    have g1 : DataW.trod enc Tryz.prog w base spare held n 4 (([c0, c1, c2, c3, c4, c5, c6, c7, c8, c9, c10, c11].drop 1).take (Tryz.prog.cellsOf 4)) = [y0, y1, y2, y3, y4, y5, y6, y7, y8, y9, y10, y11][1]? := hf 1 _ rfl
    have g2 : DataW.trod enc Tryz.prog w base spare held n 4 (([c0, c1, c2, c3, c4, c5, c6, c7, c8, c9, c10, c11].drop 2).take (Tryz.prog.cellsOf 4)) = [y0, y1, y2, y3, y4, y5, y6, y7, y8, y9, y10, y11][2]? := hf 2 _ rfl
    have g3 : DataW.trod enc Tryz.prog w base spare held n 4 (([c0, c1, c2, c3, c4, c5, c6, c7, c8, c9, c10, c11].drop 3).take (Tryz.prog.cellsOf 4)) = [y0, y1, y2, y3, y4, y5, y6, y7, y8, y9, y10, y11][3]? := hf 3 _ rfl
    have g4 : DataW.trod enc Tryz.prog w base spare held n 4 (([c0, c1, c2, c3, c4, c5, c6, c7, c8, c9, c10, c11].drop 4).take (Tryz.prog.cellsOf 4)) = [y0, y1, y2, y3, y4, y5, y6, y7, y8, y9, y10, y11][4]? := hf 4 _ rfl
    have g5 : DataW.trod enc Tryz.prog w base spare held n 4 (([c0, c1, c2, c3, c4, c5, c6, c7, c8, c9, c10, c11].drop 5).take (Tryz.prog.cellsOf 4)) = [y0, y1, y2, y3, y4, y5, y6, y7, y8, y9, y10, y11][5]? := hf 5 _ rfl
    have g6 : DataW.trod enc Tryz.prog w base spare held n 3 (([c0, c1, c2, c3, c4, c5, c6, c7, c8, c9, c10, c11].drop 6).take (Tryz.prog.cellsOf 3)) = [y0, y1, y2, y3, y4, y5, y6, y7, y8, y9, y10, y11][6]? := hf 6 _ rfl
    have g7 : DataW.trod enc Tryz.prog w base spare held n 3 (([c0, c1, c2, c3, c4, c5, c6, c7, c8, c9, c10, c11].drop 7).take (Tryz.prog.cellsOf 3)) = [y0, y1, y2, y3, y4, y5, y6, y7, y8, y9, y10, y11][7]? := hf 7 _ rfl
    have g8 : DataW.trod enc Tryz.prog w base spare held n 3 (([c0, c1, c2, c3, c4, c5, c6, c7, c8, c9, c10, c11].drop 8).take (Tryz.prog.cellsOf 3)) = [y0, y1, y2, y3, y4, y5, y6, y7, y8, y9, y10, y11][8]? := hf 8 _ rfl
    have g9 : DataW.trod enc Tryz.prog w base spare held n 3 (([c0, c1, c2, c3, c4, c5, c6, c7, c8, c9, c10, c11].drop 9).take (Tryz.prog.cellsOf 3)) = [y0, y1, y2, y3, y4, y5, y6, y7, y8, y9, y10, y11][9]? := hf 9 _ rfl
    have g10 : DataW.trod enc Tryz.prog w base spare held n 3 (([c0, c1, c2, c3, c4, c5, c6, c7, c8, c9, c10, c11].drop 10).take (Tryz.prog.cellsOf 3)) = [y0, y1, y2, y3, y4, y5, y6, y7, y8, y9, y10, y11][10]? := hf 10 _ rfl
    have g11 : DataW.trod enc Tryz.prog w base spare held n 3 (([c0, c1, c2, c3, c4, c5, c6, c7, c8, c9, c10, c11].drop 11).take (Tryz.prog.cellsOf 3)) = [y0, y1, y2, y3, y4, y5, y6, y7, y8, y9, y10, y11][11]? := hf 11 _ rfl
    rw [show Tryz.prog.cellsOf 4 = 1 from by kernel_rfl] at g0
    simp only [List.drop_succ_cons, List.drop_zero, List.take_succ_cons, List.take_zero, List.getElem?_cons_succ, List.getElem?_cons_zero] at g0
    obtain ⟨x_0, e0, d0⟩ := DataW.trod_bool Tryz.underlying4 g0
    simp only [List.cons.injEq, and_true] at e0
    subst e0
    rw [show Tryz.prog.cellsOf 4 = 1 from by kernel_rfl] at g1
    simp only [List.drop_succ_cons, List.drop_zero, List.take_succ_cons, List.take_zero, List.getElem?_cons_succ, List.getElem?_cons_zero] at g1
    obtain ⟨x_1, e1, d1⟩ := DataW.trod_bool Tryz.underlying4 g1
    simp only [List.cons.injEq, and_true] at e1
    subst e1
    rw [show Tryz.prog.cellsOf 4 = 1 from by kernel_rfl] at g2
    simp only [List.drop_succ_cons, List.drop_zero, List.take_succ_cons, List.take_zero, List.getElem?_cons_succ, List.getElem?_cons_zero] at g2
    obtain ⟨x_2, e2, d2⟩ := DataW.trod_bool Tryz.underlying4 g2
    simp only [List.cons.injEq, and_true] at e2
    subst e2
    rw [show Tryz.prog.cellsOf 4 = 1 from by kernel_rfl] at g3
    simp only [List.drop_succ_cons, List.drop_zero, List.take_succ_cons, List.take_zero, List.getElem?_cons_succ, List.getElem?_cons_zero] at g3
    obtain ⟨x_3, e3, d3⟩ := DataW.trod_bool Tryz.underlying4 g3
    simp only [List.cons.injEq, and_true] at e3
    subst e3
    rw [show Tryz.prog.cellsOf 4 = 1 from by kernel_rfl] at g4
    simp only [List.drop_succ_cons, List.drop_zero, List.take_succ_cons, List.take_zero, List.getElem?_cons_succ, List.getElem?_cons_zero] at g4
    obtain ⟨x_4, e4, d4⟩ := DataW.trod_bool Tryz.underlying4 g4
    simp only [List.cons.injEq, and_true] at e4
    subst e4
    rw [show Tryz.prog.cellsOf 4 = 1 from by kernel_rfl] at g5
    simp only [List.drop_succ_cons, List.drop_zero, List.take_succ_cons, List.take_zero, List.getElem?_cons_succ, List.getElem?_cons_zero] at g5
    obtain ⟨x_5, e5, d5⟩ := DataW.trod_bool Tryz.underlying4 g5
    simp only [List.cons.injEq, and_true] at e5
    subst e5
    rw [show Tryz.prog.cellsOf 3 = 1 from by kernel_rfl] at g6
    simp only [List.drop_succ_cons, List.drop_zero, List.take_succ_cons, List.take_zero, List.getElem?_cons_succ, List.getElem?_cons_zero] at g6
    obtain ⟨x_6, e6, d6, f6_0⟩ := DataW.trod_int Tryz.underlying3 g6
    simp only [List.cons.injEq, and_true] at e6
    subst e6
    rw [show Tryz.prog.cellsOf 3 = 1 from by kernel_rfl] at g7
    simp only [List.drop_succ_cons, List.drop_zero, List.take_succ_cons, List.take_zero, List.getElem?_cons_succ, List.getElem?_cons_zero] at g7
    obtain ⟨x_7, e7, d7, f7_0⟩ := DataW.trod_int Tryz.underlying3 g7
    simp only [List.cons.injEq, and_true] at e7
    subst e7
    rw [show Tryz.prog.cellsOf 3 = 1 from by kernel_rfl] at g8
    simp only [List.drop_succ_cons, List.drop_zero, List.take_succ_cons, List.take_zero, List.getElem?_cons_succ, List.getElem?_cons_zero] at g8
    obtain ⟨x_8, e8, d8, f8_0⟩ := DataW.trod_int Tryz.underlying3 g8
    simp only [List.cons.injEq, and_true] at e8
    subst e8
    rw [show Tryz.prog.cellsOf 3 = 1 from by kernel_rfl] at g9
    simp only [List.drop_succ_cons, List.drop_zero, List.take_succ_cons, List.take_zero, List.getElem?_cons_succ, List.getElem?_cons_zero] at g9
    obtain ⟨x_9, e9, d9, f9_0⟩ := DataW.trod_int Tryz.underlying3 g9
    simp only [List.cons.injEq, and_true] at e9
    subst e9
    rw [show Tryz.prog.cellsOf 3 = 1 from by kernel_rfl] at g10
    simp only [List.drop_succ_cons, List.drop_zero, List.take_succ_cons, List.take_zero, List.getElem?_cons_succ, List.getElem?_cons_zero] at g10
    obtain ⟨x_10, e10, d10, f10_0⟩ := DataW.trod_int Tryz.underlying3 g10
    simp only [List.cons.injEq, and_true] at e10
    subst e10
    rw [show Tryz.prog.cellsOf 3 = 1 from by kernel_rfl] at g11
    simp only [List.drop_succ_cons, List.drop_zero, List.take_succ_cons, List.take_zero, List.getElem?_cons_succ, List.getElem?_cons_zero] at g11
    obtain ⟨x_11, e11, d11, f11_0⟩ := DataW.trod_int Tryz.underlying3 g11
    simp only [List.cons.injEq, and_true] at e11
    subst e11
    refine ⟨x_0, x_1, x_2, x_3, x_4, x_5, x_6, x_7, x_8, x_9, x_10, x_11, rfl, ?_, f6_0, f7_0, f8_0, f9_0, f10_0, f11_0⟩
    simp only [List.map_cons, List.map_nil, show y0.1 = _ from congrArg Prod.fst d0, show y1.1 = _ from congrArg Prod.fst d1, show y2.1 = _ from congrArg Prod.fst d2, show y3.1 = _ from congrArg Prod.fst d3, show y4.1 = _ from congrArg Prod.fst d4, show y5.1 = _ from congrArg Prod.fst d5, show y6.1 = _ from congrArg Prod.fst d6, show y7.1 = _ from congrArg Prod.fst d7, show y8.1 = _ from congrArg Prod.fst d8, show y9.1 = _ from congrArg Prod.fst d9, show y10.1 = _ from congrArg Prod.fst d10, show y11.1 = _ from congrArg Prod.fst d11]
set_option maxRecDepth 100000 in
theorem open_Dr {r : Reach} {b0 : Nat} {v : Value} {d : DataW H} {p : List MemPlace} (hv : Value.okWide Tryz.prog w r b0 28 v) (h : DataW.Trod enc Tryz.prog w base spare held 28 v d p) :
    ∃ (x_0 : Bool) (x_1 : Bool) (x_2 : Bool) (x_3 : Bool) (x_4 : Bool) (x_5 : Bool) (x_6 : Int) (x_7 : Int) (x_8 : Int) (x_9 : Int) (x_10 : Int) (x_11 : Int), v = .agg #[.bool x_0, .bool x_1, .bool x_2, .bool x_3, .bool x_4, .bool x_5, .int .i64 x_6, .int .i64 x_7, .int .i64 x_8, .int .i64 x_9, .int .i64 x_10, .int .i64 x_11] ∧ d = .agg [.lit (.bool x_0), .lit (.bool x_1), .lit (.bool x_2), .lit (.bool x_3), .lit (.bool x_4), .lit (.bool x_5), .lit (.int .i64 x_6), .lit (.int .i64 x_7), .lit (.int .i64 x_8), .lit (.int .i64 x_9), .lit (.int .i64 x_10), .lit (.int .i64 x_11)] ∧ ((Lit.int .i64 x_6).wf = true ∧ (Lit.int .i64 x_7).wf = true ∧ (Lit.int .i64 x_8).wf = true ∧ (Lit.int .i64 x_9).wf = true ∧ (Lit.int .i64 x_10).wf = true ∧ (Lit.int .i64 x_11).wf = true) := by
  obtain ⟨⟨cs⟩, fuel, rfl, hf⟩ := open_agg Tryz.underlying28 hv h
  obtain ⟨x_0, x_1, x_2, x_3, x_4, x_5, x_6, x_7, x_8, x_9, x_10, x_11, hcs, hd, hfa⟩ := c_Dr hf
  exact ⟨x_0, x_1, x_2, x_3, x_4, x_5, x_6, x_7, x_8, x_9, x_10, x_11, by rw [show cs = _ from hcs], hd, hfa⟩
end
end Go.Proofs.YtocniclkooiggaaGreatDoor

namespace Go.Proofs.YtocniclkooiggaaGreatDoor
open Go.ChangeShapes Go.WideShapes Go.Deep Go.RowKit

section
variable {H : Type} {enc : TypeId × Value → H} {P : Program} {w : World} {base : Nat} {spare : Nat → Bool} {held : Bool}
/-- A slice of pairs of strings, opened, with its bulk. -/
theorem open_fldsU {t e S : TypeId} {A : Option Addr} {n c : Nat} {d : DataW H} {p : List MemPlace} (ht : P.underlying t = some (.slice e)) (he : TwoStr P e S)
    (h : DataW.Trod enc P w base spare held t (.slice A n c) d p) :
    ∃ L : List Fd, RdF w A n L ∧ n ≤ maxLen ∧ n ≤ c ∧ 3 * L.length + sumF L + 1 ≤ Rows.uptoBulk d := by
  obtain ⟨fuel, hf⟩ := h
  have hf' : DataW.trod enc P w base spare held fuel t [.slice A n c] = some (d, p) := by simpa [Value.cells] using hf
  rcases open_slice ht hf' with ⟨hcs, hx⟩ | ⟨a, len, cap, m, k, D, Pl, hcs, hb, hl, hm, hmm, hx, hi⟩
  · simp only [List.cons.injEq, Value.slice.injEq, and_true] at hcs
    obtain ⟨rfl, rfl, rfl⟩ := hcs
    exact ⟨[], Rd.none_ _ _ _, by simp [maxLen], Nat.le_refl _, by obtain rfl : d = .nil := congrArg Prod.fst hx; simp [sumF, Rows.uptoBulk]⟩
  · simp only [List.cons.injEq, Value.slice.injEq, and_true] at hcs
    obtain ⟨rfl, rfl, rfl⟩ := hcs
    obtain ⟨f0, f1, hu, t0, t1, o0, o1, hS, hc, hce⟩ := id he
    rw [hce] at hi
    have hnm : n ≤ m := by rw [hmm]; split <;> omega
    obtain ⟨F, hF⟩ := choose_lt (α := Fd) (n := m) (p := fun i f => w.cell? (a.add (i * 2)) = some (.string f.1) ∧ w.cell? (a.add (i * 2 + 1)) = some (.string f.2) ∧ D i = .agg [.lit (.string f.1.data.toList), .lit (.string f.2.data.toList)]) (fun i him => by
      obtain ⟨cs', h1, h2⟩ := hi i him
      obtain ⟨_, _, hat⟩ := World.cells?_some h1
      obtain ⟨u, v, rfl, hd, _, _⟩ := trod_twoStr he h2
      have c0 := hat 0 (by omega)
      have c1 := hat 1 (by omega)
      rw [Go.Deep.add_add] at c0 c1
      exact ⟨(u, v), by simpa using c0, by simpa using c1, hd⟩)
    have hlen : ((List.range n).map F).length = n := by simp
    refine ⟨(List.range n).map F, ⟨by rw [fldCells_len, hlen], fun hpos => ?_⟩, by omega, hl, ?_⟩
    · have hn0 : 0 < n := by rw [fldCells_len, hlen] at hpos; omega
      obtain ⟨b, o, sp⟩ := a
      have hsp : sp = none := by simpa [Addr.add] using World.cell?_spot (hF 0 (by omega)).1
      subst hsp
      refine ⟨b, o, rfl, fun j u hj => ?_⟩
      have hjl : j < n * 2 := by
        have := (List.getElem?_eq_some_iff.1 hj).1
        rw [fldCells_len, hlen] at this; exact this
      have hlt : j / 2 < ((List.range n).map F).length := by rw [hlen]; omega
      have hcells := hF (j / 2) (by omega)
      rw [add_plain, add_plain] at hcells
      have hFe : ((List.range n).map F)[j / 2] = F (j / 2) := by simp
      rcases Nat.mod_two_eq_zero_or_one j with h0 | h1
      · have e : j = j / 2 * 2 := by omega
        rw [e, fldCells_at0 _ _ hlt, hFe] at hj
        rw [e, ← hj]
        have e2 : j / 2 * 2 / 2 = j / 2 := by omega
        exact hcells.1
      · have e : j = j / 2 * 2 + 1 := by omega
        rw [e, fldCells_at1 _ _ hlt, hFe] at hj
        rw [e, ← hj]
        exact hcells.2.1
    · have hx1 : d = DataW.slice ((List.range n).map D) ((List.range (m - n)).map fun j => D (n + j)) := congrArg Prod.fst hx
      have hm2 : (List.range n).map D = ((List.range n).map F).map fun f => DataW.agg [.lit (.string f.1.data.toList), .lit (.string f.2.data.toList)] := by
        rw [List.map_map]
        exact List.map_congr_left fun i hi => (hF i (by have := List.mem_range.1 hi; omega)).2.2
      rw [hx1, hm2]
      simp only [Rows.uptoBulk]
      have := bulk_flds (H := H) ((List.range n).map F)
      omega
end
end Go.Proofs.YtocniclkooiggaaGreatDoor

namespace Go.Proofs.YtocniclkooiggaaGreatDoor
open Go.ChangeShapes Go.WideShapes Go.RowKit Go.Deep Go.Joins
section
variable {H : Type} {enc : TypeId × Value → H} {w : World} {base : Nat} {spare : Nat → Bool} {held : Bool}
set_option maxRecDepth 100000 in
theorem c_Tm13 {fuel : Nat} {cs : List Value} {x : DataW H × List MemPlace} (h : DataW.trod enc Tryz.prog w base spare held fuel 24 cs = some x) :
    ∃ (x_0 : Int) (x_1 : Int) (x_2 : Int), cs = [.int .i64 x_0, .int .i64 x_1, .int .i64 x_2] ∧ x.1 = .agg [.lit (.int .i64 x_0), .lit (.int .i64 x_1), .lit (.int .i64 x_2)] ∧ ((Lit.int .i64 x_0).wf = true ∧ (Lit.int .i64 x_1).wf = true ∧ (Lit.int .i64 x_2).wf = true) := by
  obtain ⟨xs, n, _, rfl, hl, hlen, hf⟩ := DataW.trod_struct Tryz.underlying24 h
  rw [show Tryz.prog.cellsOf 24 = 3 from by kernel_rfl] at hl
  match cs, hl with
  | [c0, c1, c2], _ =>
  have hlen : xs.length = 3 := hlen
  match xs, hlen with
  | [y0, y1, y2], _ =>
    have g0 : DataW.trod enc Tryz.prog w base spare held n 3 (([c0, c1, c2].drop 0).take (Tryz.prog.cellsOf 3)) = [y0, y1, y2][0]? := hf 0 _ rfl
    have g1 : DataW.trod enc Tryz.prog w base spare held n 3 (([c0, c1, c2].drop 1).take (Tryz.prog.cellsOf 3)) = [y0, y1, y2][1]? := hf 1 _ rfl
    have g2 : DataW.trod enc Tryz.prog w base spare held n 3 (([c0, c1, c2].drop 2).take (Tryz.prog.cellsOf 3)) = [y0, y1, y2][2]? := hf 2 _ rfl
    rw [show Tryz.prog.cellsOf 3 = 1 from by kernel_rfl] at g0
    simp only [List.drop_succ_cons, List.drop_zero, List.take_succ_cons, List.take_zero, List.getElem?_cons_succ, List.getElem?_cons_zero] at g0
    obtain ⟨x_0, e0, d0, f0_0⟩ := DataW.trod_int Tryz.underlying3 g0
    simp only [List.cons.injEq, and_true] at e0
    subst e0
    rw [show Tryz.prog.cellsOf 3 = 1 from by kernel_rfl] at g1
    simp only [List.drop_succ_cons, List.drop_zero, List.take_succ_cons, List.take_zero, List.getElem?_cons_succ, List.getElem?_cons_zero] at g1
    obtain ⟨x_1, e1, d1, f1_0⟩ := DataW.trod_int Tryz.underlying3 g1
    simp only [List.cons.injEq, and_true] at e1
    subst e1
    rw [show Tryz.prog.cellsOf 3 = 1 from by kernel_rfl] at g2
    simp only [List.drop_succ_cons, List.drop_zero, List.take_succ_cons, List.take_zero, List.getElem?_cons_succ, List.getElem?_cons_zero] at g2
    obtain ⟨x_2, e2, d2, f2_0⟩ := DataW.trod_int Tryz.underlying3 g2
    simp only [List.cons.injEq, and_true] at e2
    subst e2
    refine ⟨x_0, x_1, x_2, rfl, ?_, f0_0, f1_0, f2_0⟩
    simp only [List.map_cons, List.map_nil, show y0.1 = _ from congrArg Prod.fst d0, show y1.1 = _ from congrArg Prod.fst d1, show y2.1 = _ from congrArg Prod.fst d2]
set_option maxRecDepth 100000 in
theorem c_Sd17 {fuel : Nat} {cs : List Value} {x : DataW H × List MemPlace} (h : DataW.trod enc Tryz.prog w base spare held fuel 26 cs = some x) :
    ∃ (x_0 : Int) (x_1A : Option Addr) (x_1n : Nat) (x_1c : Nat) (x_1d : DataW H) (x_1p : List MemPlace) (x_2_0 : Int) (x_2_1 : Int) (x_2_2 : Int) (x_3 : Bool), cs = [.int .i64 x_0, .slice x_1A x_1n x_1c, .int .i64 x_2_0, .int .i64 x_2_1, .int .i64 x_2_2, .bool x_3] ∧ x.1 = .agg [.lit (.int .i64 x_0), x_1d, .agg [.lit (.int .i64 x_2_0), .lit (.int .i64 x_2_1), .lit (.int .i64 x_2_2)], .lit (.bool x_3)] ∧ ((Lit.int .i64 x_0).wf = true ∧ DataW.Trod enc Tryz.prog w base spare held 22 (.slice x_1A x_1n x_1c) x_1d x_1p ∧ (Lit.int .i64 x_2_0).wf = true ∧ (Lit.int .i64 x_2_1).wf = true ∧ (Lit.int .i64 x_2_2).wf = true) := by
  obtain ⟨xs, n, _, rfl, hl, hlen, hf⟩ := DataW.trod_struct Tryz.underlying26 h
  rw [show Tryz.prog.cellsOf 26 = 6 from by kernel_rfl] at hl
  match cs, hl with
  | [c0, c1, c2, c3, c4, c5], _ =>
  have hlen : xs.length = 4 := hlen
  match xs, hlen with
  | [y0, y1, y2, y3], _ =>
    have g0 : DataW.trod enc Tryz.prog w base spare held n 3 (([c0, c1, c2, c3, c4, c5].drop 0).take (Tryz.prog.cellsOf 3)) = [y0, y1, y2, y3][0]? := hf 0 _ rfl
    have g1 : DataW.trod enc Tryz.prog w base spare held n 22 (([c0, c1, c2, c3, c4, c5].drop 1).take (Tryz.prog.cellsOf 22)) = [y0, y1, y2, y3][1]? := hf 1 _ rfl
    have g2 : DataW.trod enc Tryz.prog w base spare held n 24 (([c0, c1, c2, c3, c4, c5].drop 2).take (Tryz.prog.cellsOf 24)) = [y0, y1, y2, y3][2]? := hf 2 _ rfl
    have g3 : DataW.trod enc Tryz.prog w base spare held n 4 (([c0, c1, c2, c3, c4, c5].drop 5).take (Tryz.prog.cellsOf 4)) = [y0, y1, y2, y3][3]? := hf 3 _ rfl
    rw [show Tryz.prog.cellsOf 3 = 1 from by kernel_rfl] at g0
    simp only [List.drop_succ_cons, List.drop_zero, List.take_succ_cons, List.take_zero, List.getElem?_cons_succ, List.getElem?_cons_zero] at g0
    obtain ⟨x_0, e0, d0, f0_0⟩ := DataW.trod_int Tryz.underlying3 g0
    simp only [List.cons.injEq, and_true] at e0
    subst e0
    rw [show Tryz.prog.cellsOf 22 = 1 from by kernel_rfl] at g1
    simp only [List.drop_succ_cons, List.drop_zero, List.take_succ_cons, List.take_zero, List.getElem?_cons_succ, List.getElem?_cons_zero] at g1
    obtain ⟨x_1A, x_1n, x_1c, e1, f1_0⟩ := c_slice Tryz.underlying22 g1
    simp only [List.cons.injEq, and_true] at e1
    subst e1
    rw [show Tryz.prog.cellsOf 24 = 3 from by kernel_rfl] at g2
    simp only [List.drop_succ_cons, List.drop_zero, List.take_succ_cons, List.take_zero, List.getElem?_cons_succ, List.getElem?_cons_zero] at g2
    obtain ⟨x_2_0, x_2_1, x_2_2, e2, d2, f2_0, f2_1, f2_2⟩ := c_Tm13 g2
    simp only [List.cons.injEq, and_true] at e2
    obtain ⟨rfl, rfl, rfl⟩ := e2
    rw [show Tryz.prog.cellsOf 4 = 1 from by kernel_rfl] at g3
    simp only [List.drop_succ_cons, List.drop_zero, List.take_succ_cons, List.take_zero, List.getElem?_cons_succ, List.getElem?_cons_zero] at g3
    obtain ⟨x_3, e3, d3⟩ := DataW.trod_bool Tryz.underlying4 g3
    simp only [List.cons.injEq, and_true] at e3
    subst e3
    refine ⟨x_0, x_1A, x_1n, x_1c, _, _, x_2_0, x_2_1, x_2_2, x_3, rfl, ?_, f0_0, f1_0, f2_0, f2_1, f2_2⟩
    simp only [List.map_cons, List.map_nil, show y0.1 = _ from congrArg Prod.fst d0, d2, show y3.1 = _ from congrArg Prod.fst d3]
set_option maxRecDepth 100000 in
theorem c_Mo {fuel : Nat} {cs : List Value} {x : DataW H × List MemPlace} (h : DataW.trod enc Tryz.prog w base spare held fuel 30 cs = some x) :
    ∃ (x_0 : Int) (x_1 : Int), cs = [.int .i64 x_0, .int .i64 x_1] ∧ x.1 = .agg [.lit (.int .i64 x_0), .lit (.int .i64 x_1)] ∧ ((Lit.int .i64 x_0).wf = true ∧ (Lit.int .i64 x_1).wf = true) := by
  obtain ⟨xs, n, _, rfl, hl, hlen, hf⟩ := DataW.trod_struct Tryz.underlying30 h
  rw [show Tryz.prog.cellsOf 30 = 2 from by kernel_rfl] at hl
  match cs, hl with
  | [c0, c1], _ =>
  have hlen : xs.length = 2 := hlen
  match xs, hlen with
  | [y0, y1], _ =>
    have g0 : DataW.trod enc Tryz.prog w base spare held n 3 (([c0, c1].drop 0).take (Tryz.prog.cellsOf 3)) = [y0, y1][0]? := hf 0 _ rfl
    have g1 : DataW.trod enc Tryz.prog w base spare held n 3 (([c0, c1].drop 1).take (Tryz.prog.cellsOf 3)) = [y0, y1][1]? := hf 1 _ rfl
    rw [show Tryz.prog.cellsOf 3 = 1 from by kernel_rfl] at g0
    simp only [List.drop_succ_cons, List.drop_zero, List.take_succ_cons, List.take_zero, List.getElem?_cons_succ, List.getElem?_cons_zero] at g0
    obtain ⟨x_0, e0, d0, f0_0⟩ := DataW.trod_int Tryz.underlying3 g0
    simp only [List.cons.injEq, and_true] at e0
    subst e0
    rw [show Tryz.prog.cellsOf 3 = 1 from by kernel_rfl] at g1
    simp only [List.drop_succ_cons, List.drop_zero, List.take_succ_cons, List.take_zero, List.getElem?_cons_succ, List.getElem?_cons_zero] at g1
    obtain ⟨x_1, e1, d1, f1_0⟩ := DataW.trod_int Tryz.underlying3 g1
    simp only [List.cons.injEq, and_true] at e1
    subst e1
    refine ⟨x_0, x_1, rfl, ?_, f0_0, f1_0⟩
    simp only [List.map_cons, List.map_nil, show y0.1 = _ from congrArg Prod.fst d0, show y1.1 = _ from congrArg Prod.fst d1]
set_option maxRecDepth 100000 in
theorem open_Sd17 {r : Reach} {b0 : Nat} {v : Value} {d : DataW H} {p : List MemPlace} (hv : Value.okWide Tryz.prog w r b0 26 v) (h : DataW.Trod enc Tryz.prog w base spare held 26 v d p) :
    ∃ (x_0 : Int) (x_1A : Option Addr) (x_1n : Nat) (x_1c : Nat) (x_1d : DataW H) (x_1p : List MemPlace) (x_2_0 : Int) (x_2_1 : Int) (x_2_2 : Int) (x_3 : Bool), v = .agg #[.int .i64 x_0, .slice x_1A x_1n x_1c, .int .i64 x_2_0, .int .i64 x_2_1, .int .i64 x_2_2, .bool x_3] ∧ d = .agg [.lit (.int .i64 x_0), x_1d, .agg [.lit (.int .i64 x_2_0), .lit (.int .i64 x_2_1), .lit (.int .i64 x_2_2)], .lit (.bool x_3)] ∧ ((Lit.int .i64 x_0).wf = true ∧ DataW.Trod enc Tryz.prog w base spare held 22 (.slice x_1A x_1n x_1c) x_1d x_1p ∧ (Lit.int .i64 x_2_0).wf = true ∧ (Lit.int .i64 x_2_1).wf = true ∧ (Lit.int .i64 x_2_2).wf = true) := by
  obtain ⟨⟨cs⟩, fuel, rfl, hf⟩ := open_agg Tryz.underlying26 hv h
  obtain ⟨x_0, x_1A, x_1n, x_1c, x_1d, x_1p, x_2_0, x_2_1, x_2_2, x_3, hcs, hd, hfa⟩ := c_Sd17 hf
  exact ⟨x_0, x_1A, x_1n, x_1c, x_1d, x_1p, x_2_0, x_2_1, x_2_2, x_3, by rw [show cs = _ from hcs], hd, hfa⟩
set_option maxRecDepth 100000 in
theorem open_Mo {r : Reach} {b0 : Nat} {v : Value} {d : DataW H} {p : List MemPlace} (hv : Value.okWide Tryz.prog w r b0 30 v) (h : DataW.Trod enc Tryz.prog w base spare held 30 v d p) :
    ∃ (x_0 : Int) (x_1 : Int), v = .agg #[.int .i64 x_0, .int .i64 x_1] ∧ d = .agg [.lit (.int .i64 x_0), .lit (.int .i64 x_1)] ∧ ((Lit.int .i64 x_0).wf = true ∧ (Lit.int .i64 x_1).wf = true) := by
  obtain ⟨⟨cs⟩, fuel, rfl, hf⟩ := open_agg Tryz.underlying30 hv h
  obtain ⟨x_0, x_1, hcs, hd, hfa⟩ := c_Mo hf
  exact ⟨x_0, x_1, by rw [show cs = _ from hcs], hd, hfa⟩
end
theorem u16_wf0 {x : Int} (h : (Lit.int .u16 x).wf = true) : 0 ≤ x ∧ x ≤ 65535 := by
  simp [Lit.wf] at h
  have e1 : IntKind.u16.min = 0 := rfl
  have e2 : IntKind.u16.max = 65535 := rfl
  omega
end Go.Proofs.YtocniclkooiggaaGreatDoor

namespace Go.Proofs.YtocniclkooiggaaGreatDoor
open Go.RowKit Go.ChangeShapes

theorem laid_in {P : Program} {W : World} : ∀ {laid : List (String × DataW Unit)} {ps : List MemPlace}, DataW.LaidVars P W laid ps → ∀ x ∈ laid,
    ∃ g t cs fuel p, P.globalNamed x.1 = some g ∧ (P.globals[g]?).map (·.type) = some t ∧ W.var? P x.1 = some cs ∧ DataW.trod (fun _ => ()) P W 0 (fun _ => true) false fuel t cs.toList = some (x.2, p)
  | [], _, _, x, hx => by cases hx
  | (n, d) :: r, ps, h, x, hx => by
    obtain ⟨g, t, cs, fuel, p, q, h1, h2, h3, h4, h5, _⟩ := h
    rcases List.mem_cons.1 hx with rfl | hx
    · exact ⟨g, t, cs, fuel, p, h1, h2, h3, h4⟩
    · exact laid_in h5 x hx
theorem cells_arr {α : Type} {P : Program} {w : World} {base : Nat} {sp : Nat → Bool} {held : Bool} {fuel : Nat} {t e : TypeId} {n : Nat} {cs : List Value} {l : List α} {p : List MemPlace} (lit : α → DataW Unit) (cell : α → Value)
    (ht : P.underlying t = some (.array n e)) (hce : P.cellsOf e = 1) (hct : P.cellsOf t = n)
    (hone : ∀ m c a q, DataW.trod (fun _ => ()) P w base sp held m e [c] = some (lit a, q) → c = cell a)
    (h : DataW.trod (fun _ => ()) P w base sp held fuel t cs = some (.agg (l.map lit), p)) : cs = l.map cell := by
  obtain ⟨xs, m, rfl, hx, hlen, hxl, hg⟩ := DataW.trod_array ht h
  have hm : l.map lit = xs.map (·.1) := by
    have := congrArg Prod.fst hx
    simpa using this
  have hll : l.length = n := by
    have := congrArg List.length hm
    simp at this
    omega
  apply List.ext_getElem (by simp; omega)
  intro i h1 h2
  have hi : i < n := by omega
  have h3 := hg i hi
  rw [hce, Nat.mul_one] at h3
  have h4 : (cs.drop i).take 1 = [cs[i]] := by
    rw [List.drop_eq_getElem_cons h1]; rfl
  have hix : i < xs.length := by omega
  rw [h4, List.getElem?_eq_getElem hix] at h3
  have h5 : lit (l[i]'(by omega)) = (xs[i]).1 := by
    have := congrArg (·[i]?) hm
    simpa [hix, show i < l.length by omega] using this
  rw [List.getElem_map]
  refine hone m _ _ (xs[i]).2 ?_
  rw [h3, h5]
theorem tab_rd {α : Type} {P : Program} {W : World} {laid : List (String × DataW Unit)} {name : String} {g : Nat} {t e : TypeId} {n : Nat} {l : List α} (lit : α → DataW Unit) (cell : α → Value)
    (hp : (laid.all fun x => x.2.handleName?.isNone) = true) (h : laidMetH P laid W) (hin : (name, .agg (l.map lit)) ∈ laid) (hg : P.globalNamed name = some g) (hty : (P.globals[g]?).map (·.type) = some t)
    (ht : P.underlying t = some (.array n e)) (hce : P.cellsOf e = 1) (hct : P.cellsOf t = n)
    (hone : ∀ m c a q, DataW.trod (fun _ => ()) P W 0 (fun _ => true) false m e [c] = some (lit a, q) → c = cell a) (hl : l.length = n) : Rd W 1 (some ⟨g, 0, none⟩) n (l.map cell) := by
  rw [MakeChecks.laidMetH_plain _ _ _ hp] at h
  obtain ⟨ps, hv, _⟩ := h
  obtain ⟨g', t', cs, fuel, p, h1, h2, h3, h4⟩ := laid_in hv _ hin
  obtain rfl := Option.some.inj (hg.symm.trans h1)
  obtain rfl := Option.some.inj (hty.symm.trans h2)
  have hc := cells_arr lit cell ht hce hct hone h4
  refine ⟨by simp [hl], fun _ => ⟨g, 0, rfl, fun j u hu => ?_⟩⟩
  rw [Nat.zero_add, World.var?_cell hg h3 j, ← Array.getElem?_toList, hc]
  exact hu
theorem one_str {P : Program} {w : World} {base : Nat} {sp : Nat → Bool} {held : Bool} {e : TypeId} (he : P.underlying e = some .string) (m : Nat) (c : Value) (a : ByteArray) (q : List MemPlace)
    (h : DataW.trod (fun _ => ()) P w base sp held m e [c] = some (.lit (.string a.data.toList), q)) : c = .string a := by
  obtain ⟨s, h1, h2, _⟩ := DataW.trod_string he h
  simp only [List.cons.injEq, and_true] at h1
  simp only [Prod.mk.injEq, DataW.lit.injEq, Lit.string.injEq] at h2
  rw [h1, bytes_ext h2.1]
theorem one_int {P : Program} {w : World} {base : Nat} {sp : Nat → Bool} {held : Bool} {e : TypeId} {k : IntKind} (he : P.underlying e = some (.int k)) (m : Nat) (c : Value) (a : Int) (q : List MemPlace)
    (h : DataW.trod (fun _ => ()) P w base sp held m e [c] = some (.lit (.int k a), q)) : c = .int k a := by
  obtain ⟨s, h1, h2, _⟩ := DataW.trod_int he h
  simp only [List.cons.injEq, and_true] at h1
  simp only [Prod.mk.injEq, DataW.lit.injEq, Lit.int.injEq, true_and] at h2
  rw [h1, h2.1]
end Go.Proofs.YtocniclkooiggaaGreatDoor

namespace Go.Proofs.YtocniclkooiggaaGreatDoor
open Go.RowKit Go.ChangeShapes

set_option maxRecDepth 100000 in
/-- The three tables of httpdate, out of a row's condition. -/
theorem glH_of {W : World} {laid : List (String × DataW Unit)} (hp : (laid.all fun x => x.2.handleName?.isNone) = true) (h : laidMetH Tryz.prog laid W)
    (h1 : ("quayside/httpdate.months", Rows.laid_quayside_httpdate_months) ∈ laid) (h2 : ("quayside/httpdate.weekdays", Rows.laid_quayside_httpdate_weekdays) ∈ laid) (h3 : ("quayside/httpdate.lengths", Rows.laid_quayside_httpdate_lengths) ∈ laid) : GlH W :=
  ⟨tab_rd (l := moL) (fun s => .lit (.string s.data.toList)) Value.string hp h h1 (by kernel_rfl) (by kernel_rfl) Tryz.underlying136 (by kernel_rfl) (by kernel_rfl) (one_str Tryz.underlying9) rfl,
   tab_rd (l := wdL) (fun s => .lit (.string s.data.toList)) Value.string hp h h2 (by kernel_rfl) (by kernel_rfl) Tryz.underlying147 (by kernel_rfl) (by kernel_rfl) (one_str Tryz.underlying9) rfl,
   tab_rd (l := leL) (fun z => .lit (.int .i64 z)) (Value.int .i64) hp h h3 (by kernel_rfl) (by kernel_rfl) Tryz.underlying155 (by kernel_rfl) (by kernel_rfl) (one_int Tryz.underlying3) rfl⟩
end Go.Proofs.YtocniclkooiggaaGreatDoor
