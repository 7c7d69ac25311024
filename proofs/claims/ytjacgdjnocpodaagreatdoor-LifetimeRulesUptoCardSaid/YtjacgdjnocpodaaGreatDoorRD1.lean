
/- The walks of the package quaysideref04's small functions: leap, length, Day, Date, Weekday, number, digits. -/
import Derived.Test.YtjacgdjnocpodaaGreatDoorDate4
namespace Go.Proofs.YtjacgdjnocpodaaGreatDoor
open Go.RowKit

set_option maxHeartbeats 1000000 in
theorem rd_leap (y : Int) (w : World) (h0 : 0 ≤ y) (h1 : y ≤ 1000000) :
    Calls Tryz.prog 61 #[.int .i64 y] w fun e w' => e = .returned (.int .i64 (lp y)) ∧ w' = w := by
  have Hl := Lib.hid (show lpB y = ((y % 4 == 0 && y % 100 != 0) || y % 400 == 0) from rfl)
  have Hp := Lib.hid (show lp y = if lpB y then 1 else 0 from rfl)
  generalize lp y = p at *
  generalize lpB y = b at *
  cases h4 : (y % 4 == 0) <;> cases h100 : (y % 100 == 0) <;> cases h400 : (y % 400 == 0)
  all_goals
    have hn : (y % 100 != 0) = !(y % 100 == 0) := rfl
    rw [h100] at hn
    rw [h4, hn, h400] at Hl
    simp only [Bool.not_false, Bool.not_true] at hn
    go_enter Tryz.func61, Tryz.ntmps61
    go_wp2_with fail
    go_ret
    exact ⟨ret_i (by rw [Hp.out, Hl.out]; rfl), rfl⟩

set_option maxHeartbeats 1000000 in
theorem rd_length (y : Int) (m : Nat) (w : World) (h0 : 0 ≤ y) (h1 : y ≤ 1000000) (hm1 : m ≤ 1000) :
    Calls Tryz.prog 60 #[.int .i64 y, .int .i64 (m : Nat)] w fun e w' => e = .returned (.int .i64 (ml y m)) ∧ w' = w := by
  have hlp := lp_01 y
  by_cases h2 : m = 2
  · have Hv := Lib.hid (show 28 + lp y = ml y m by rw [h2]; rfl)
    subst h2
    go_enter Tryz.func60, Tryz.ntmps60
    go_wp2_with fail
    refine (rd_leap y _ h0 h1).mono ?_; rintro e w1 ⟨rfl, rfl⟩
    go_wp2_with fail
    go_ret
    exact ⟨ret_i Hv.out, rfl⟩
  · by_cases h4 : m = 4 ∨ m = 6 ∨ m = 9 ∨ m = 11
    · have Hv := Lib.hid (show (30 : Int) = ml y m by unfold ml; rw [if_neg (by omega), if_pos (by omega)])
      generalize ml y m = r at *
      rcases h4 with h | h | h | h
      all_goals
        subst h
        go_enter Tryz.func60, Tryz.ntmps60
        go_wp2_with fail
        go_ret
        exact ⟨ret_i Hv.out, rfl⟩
    · have Hv := Lib.hid (show (31 : Int) = ml y m by unfold ml; rw [if_neg (by omega), if_neg (by omega)])
      generalize ml y m = r at *
      have z2 : ((m : Int) == 2) = false := by rw [beq_eq_false_iff_ne]; omega
      have z4 : ((m : Int) == 4) = false := by rw [beq_eq_false_iff_ne]; omega
      have z6 : ((m : Int) == 6) = false := by rw [beq_eq_false_iff_ne]; omega
      have z9 : ((m : Int) == 9) = false := by rw [beq_eq_false_iff_ne]; omega
      have z11 : ((m : Int) == 11) = false := by rw [beq_eq_false_iff_ne]; omega
      clear h4 h2
      go_enter Tryz.func60, Tryz.ntmps60
      go_wp2_with fail
      go_ret
      exact ⟨ret_i Hv.out, rfl⟩

def day2V (y : Int) (m : Nat) (d : Int) : Value := if okD y m d then .tuple #[.int .i64 (dayN y m d), .bool true] else .tuple #[.int .i64 0, .bool false]
theorem day2V_yes {y : Int} {m : Nat} {d : Int} (h : okD y m d) : day2V y m d = .tuple #[.int .i64 (dayN y m d), .bool true] := if_pos h
theorem day2V_no {y : Int} {m : Nat} {d : Int} (h : ¬ okD y m d) : day2V y m d = .tuple #[.int .i64 0, .bool false] := if_neg h

set_option maxHeartbeats 1000000 in
theorem rd_Day (y : Int) (m : Nat) (d : Int) (w : World) (h0 : -1 ≤ y) (h1 : y ≤ 9999) (hm : m ≤ 13) (hd0 : -1 ≤ d) (hd1 : d ≤ 99) :
    Calls Tryz.prog 41 #[.int .i64 y, .int .i64 (m : Nat), .int .i64 d] w fun e w' => e = .returned (day2V y m d) ∧ w' = w := by
  have Hno := Lib.hid (@day2V_no y m d)
  have Hyes := Lib.hid (@day2V_yes y m d)
  by_cases a1 : y < 1970
  · have Hn := Lib.hid (Hno.out (fun h => by have := h.1; omega))
    go_enter Tryz.func41, Tryz.ntmps41
    go_wp2_with fail
    all_goals (go_ret2; exact ⟨ret_v Hn.out.symm, rfl⟩)
  have hle : ¬ (9999 : Int) < y := by omega
  by_cases a2 : m < 1
  · have Hn := Lib.hid (Hno.out (fun h => by have := h.2.2.1; omega))
    obtain rfl : m = 0 := by omega
    go_enter Tryz.func41, Tryz.ntmps41
    go_wp2_with fail
    all_goals (go_ret2; exact ⟨ret_v Hn.out.symm, rfl⟩)
  have hm1 : ¬ (m : Int) < 1 := by omega
  by_cases a5 : 12 < m
  · have Hn := Lib.hid (Hno.out (fun h => by have := h.2.2.2.1; omega))
    obtain rfl : m = 13 := by omega
    go_enter Tryz.func41, Tryz.ntmps41
    go_wp2_with fail
    all_goals (go_ret2; exact ⟨ret_v Hn.out.symm, rfl⟩)
  have hm2 : ¬ (12 : Int) < (m : Int) := by omega
  by_cases a3 : d < 1
  · have Hn := Lib.hid (Hno.out (fun h => by have := h.2.2.2.2.1; omega))
    go_enter Tryz.func41, Tryz.ntmps41
    go_wp2_with fail
    all_goals (go_ret2; exact ⟨ret_v Hn.out.symm, rfl⟩)
  have hmo := Lib.hid (rd_length y m w (by omega) (by omega) (by omega))
  have hml := ml_bd y m
  by_cases a4 : ml y m < d
  · have Hn := Lib.hid (Hno.out (fun h => by have := h.2.2.2.2.2; omega))
    go_enter Tryz.func41, Tryz.ntmps41
    go_wp2_with fail
    refine hmo.out.mono ?_; rintro e w1 ⟨rfl, rfl⟩
    go_wp2_with fail
    all_goals (go_ret2; exact ⟨ret_v Hn.out.symm, rfl⟩)
  · have Hn := Lib.hid (Hyes.out ⟨by omega, by omega, by omega, by omega, by omega, by omega⟩)
    have hbb := bef_bd (y := y) (by omega) (by omega)
    go_enter Tryz.func41, Tryz.ntmps41
    go_wp2_with fail
    refine hmo.out.mono ?_; rintro e w1 ⟨rfl, rfl⟩
    go_wp2_with fail
    go_loopw [8, 9] (fun n i wr => ∃ z : Int, 1970 ≤ z ∧ z ≤ y ∧ n = .int .i64 (d - 1 + bef z) ∧ i = .int .i64 z ∧ wr = w1) (fun _ i _ => (y - intOf i).toNat)
    case atStart => exact ⟨1970, Int.le_refl _, by omega, by rw [bef_1970, Int.add_zero], rfl, rfl⟩
    case round =>
      obtain ⟨z, hz0, hz1, rfl, rfl, rfl⟩ := hrel
      have hbz := bef_bd (y := z) hz0 (by omega)
      by_cases hlt : z < y
      · have Hbs := Lib.hid (bef_succ z (by omega))
        have hlp := lp_01 z
        go_wp2_with fail
        refine (rd_leap z _ (by omega) (by omega)).mono ?_; rintro e w3 ⟨rfl, rfl⟩
        go_wp2_with fail
        go_roundw
        case rel => exact ⟨z + 1, by omega, by omega, by rw [Hbs.out]; go_num, by go_num, trivial⟩
        case measure => simp [intOf]; omega
      · obtain rfl : z = y := by omega
        go_wp2_with fail
        go_loopw [8, 10] (fun n i wr' => ∃ k : Nat, 1 ≤ k ∧ k ≤ m ∧ n = .int .i64 (d - 1 + bef z + cum z k) ∧ i = .int .i64 (k : Nat) ∧ wr' = wr) (fun _ i _ => m - (intOf i).toNat)
        case atStart => exact ⟨1, Nat.le_refl _, by omega, by rw [cum_1, Int.add_zero], rfl, rfl⟩
        case round =>
          obtain ⟨k, hk1, hk, rfl, rfl, rfl⟩ := hrel
          have hcb := cum_bd z hk1 (by omega)
          by_cases hlt : k < m
          · have Hcs := Lib.hid (cum_succ z k (by omega))
            have hmb := ml_bd z k
            go_wp2_with fail
            refine (rd_length z k _ (by omega) (by omega) (by omega)).mono ?_; rintro e w3 ⟨rfl, rfl⟩
            go_wp2_with fail
            go_roundw
            case rel => exact ⟨k + 1, by omega, by omega, by rw [Hcs.out]; go_num, by go_num, trivial⟩
            case measure => simp [intOf]; omega
          · obtain rfl : k = m := by omega
            have Hz := Lib.hid (show Value.tuple #[.int .i64 (d - 1 + bef z + cum z k), .bool true] = day2V z k d by rw [Hn.out]; unfold dayN; rw [show d - 1 + bef z + cum z k = bef z + cum z k + d - 1 by omega])
            go_wp2_with fail
            go_ret2
            exact ⟨ret_v Hz.out, rfl⟩

def date3V (d : Int) : Value := .tuple #[.int .i64 (yOf d), .int .i64 (mOf d : Nat), .int .i64 (dOf d)]
theorem date3V_of {d y : Int} {m : Nat} {r : Int} (h0 : 0 ≤ d) (h1 : d ≤ 2932896) (hk : okD y m r) (he : dayN y m r = d) : date3V d = .tuple #[.int .i64 y, .int .i64 (m : Nat), .int .i64 r] := by
  obtain ⟨a, b⟩ := date_ok h0 h1
  obtain ⟨e1, e2, e3⟩ := day_one hk a (he.trans b.symm)
  unfold date3V
  rw [← e1, ← e2, ← e3]

set_option maxHeartbeats 1000000 in
theorem rd_Date (d : Int) (w : World) (h0 : 0 ≤ d) (h1 : d ≤ 2932896) :
    Calls Tryz.prog 62 #[.int .i64 d] w fun e w' => e = .returned (date3V d) ∧ w' = w := by
  have Hd := Lib.hid (fun y m r => @date3V_of d y m r)
  go_enter Tryz.func62, Tryz.ntmps62
  go_wp2_with fail
  go_loopw [0, 5] (fun r y wr => ∃ z : Int, 1970 ≤ z ∧ z ≤ 9999 ∧ 0 ≤ d - bef z ∧ r = .int .i64 (d - bef z) ∧ y = .int .i64 z ∧ wr = w) (fun _ y _ => (9999 - intOf y).toNat)
  case atStart => exact ⟨1970, by omega, by omega, by rw [bef_1970]; omega, by rw [bef_1970, Int.sub_zero], rfl, rfl⟩
  case round =>
    obtain ⟨z, hz0, hz1, hzb, rfl, rfl, rfl⟩ := hrel
    have hbz := bef_bd hz0 (by omega)
    have Hbs := Lib.hid (bef_succ z (by omega))
    have hlp := lp_01 z
    by_cases hc : 365 + lp z ≤ d - bef z
    · have hz9 : z < 9999 := by
        by_cases hz9 : z < 9999
        · exact hz9
        · obtain rfl : z = 9999 := by omega
          have a := Hbs.out
          have b : bef (9999 + 1) = 2932897 := bef_10000
          omega
      go_wp2_with fail
      refine (rd_leap z _ (by omega) (by omega)).mono ?_; rintro e w1 ⟨rfl, rfl⟩
      go_wp2_with fail
      refine (rd_leap z _ (by omega) (by omega)).mono ?_; rintro e w2 ⟨rfl, rfl⟩
      go_wp2_with fail
      go_roundw
      case rel => exact ⟨z + 1, by omega, by omega, by rw [Hbs.out]; omega, by rw [Hbs.out]; go_num, by go_num, trivial⟩
      case measure => simp [intOf]; omega
    · go_wp2_with fail
      refine (rd_leap z _ (by omega) (by omega)).mono ?_; rintro e w1 ⟨rfl, rfl⟩
      go_wp2_with fail
      go_loopw [0, 6] (fun r m wr' => ∃ k : Nat, 1 ≤ k ∧ k ≤ 12 ∧ r = .int .i64 (d - bef z - cum z k) ∧ 0 ≤ d - bef z - cum z k ∧ m = .int .i64 (k : Nat) ∧ wr' = w1) (fun _ m _ => 12 - (intOf m).toNat)
      case atStart => exact ⟨1, Nat.le_refl _, by omega, by rw [cum_1, Int.sub_zero], by rw [cum_1]; omega, rfl, rfl⟩
      case round =>
        obtain ⟨k, hk1, hk, rfl, hr0, rfl, rfl⟩ := hrel
        have hcb := cum_bd z hk1 (by omega)
        have hmb := ml_bd z k
        have Hcs := Lib.hid (cum_succ z k (by omega))
        by_cases hge : ml z k ≤ d - bef z - cum z k
        · have hk12 : k < 12 := by
            by_cases h12 : k < 12
            · exact h12
            · obtain rfl : k = 12 := by omega
              have a := Hcs.out
              have b := cum_13 z
              have e : cum z (12 + 1) = cum z 13 := rfl
              omega
          go_wp2_with fail
          refine (rd_length z k _ (by omega) (by omega) (by omega)).mono ?_; rintro e w3 ⟨rfl, rfl⟩
          go_wp2_with fail
          refine (rd_length z k _ (by omega) (by omega) (by omega)).mono ?_; rintro e w4 ⟨rfl, rfl⟩
          go_wp2_with fail
          go_roundw
          case rel => exact ⟨k + 1, by omega, by omega, by rw [Hcs.out]; go_num, by rw [Hcs.out]; omega, by go_num, trivial⟩
          case measure => simp [intOf]; omega
        · have He := Lib.hid (Hd.out z k (d - bef z - cum z k + 1) h0 h1 ⟨hz0, hz1, hk1, hk, by omega, by omega⟩ (by unfold dayN; omega))
          go_wp2_with fail
          refine (rd_length z k _ (by omega) (by omega) (by omega)).mono ?_; rintro e w3 ⟨rfl, rfl⟩
          go_wp2_with fail
          go_ret3
          exact ⟨ret_v He.out.symm, rfl⟩

set_option maxHeartbeats 1000000 in
theorem rd_Weekday (d : Int) (w : World) (h0 : 0 ≤ d) (h1 : d ≤ 1000000000) :
    Calls Tryz.prog 63 #[.int .i64 d] w fun e w' => e = .returned (.int .i64 (wkN d)) ∧ w' = w := by
  go_enter Tryz.func63, Tryz.ntmps63
  go_wp2_with fail
  go_ret
  exact ⟨ret_i (by unfold wkN; omega), rfl⟩
end Go.Proofs.YtjacgdjnocpodaaGreatDoor
