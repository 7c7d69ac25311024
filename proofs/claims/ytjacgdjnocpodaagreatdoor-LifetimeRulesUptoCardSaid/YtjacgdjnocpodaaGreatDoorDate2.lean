
/- The walks of the package httpdate: number, Day, Date. -/
import Derived.Test.YtjacgdjnocpodaaGreatDoorDate1
namespace Go.Proofs.YtjacgdjnocpodaaGreatDoor
open Go.RowKit

instance (y : Int) (m : Nat) (d : Int) : Decidable (okD y m d) := by unfold okD; infer_instance
/-- What Day returns. -/
def dayV (y : Int) (m : Nat) (d : Int) : Value := if okD y m d then .tuple #[.int .i64 (dayN y m d), .nilIface] else .tuple #[.int .i64 0, errV 1]
theorem dayV_yes {y : Int} {m : Nat} {d : Int} (h : okD y m d) : dayV y m d = .tuple #[.int .i64 (dayN y m d), .nilIface] := if_pos h
theorem dayV_no {y : Int} {m : Nat} {d : Int} (h : ¬ okD y m d) : dayV y m d = .tuple #[.int .i64 0, errV 1] := if_neg h
theorem ret_v {a b : Value} (h : a = b) : Ending.returned a = .returned b := by rw [h]
theorem bef_bd {y : Int} (h0 : 1970 ≤ y) (h1 : y ≤ 10000) : 0 ≤ bef y ∧ bef y ≤ 2932897 := by
  have a := bef_mono (a := 1970) (b := y) (by omega) h0
  have b := bef_mono (a := y) (b := 10000) (by omega) h1
  rw [bef_1970] at a
  rw [bef_10000] at b
  omega
theorem cum_bd (y : Int) {m : Nat} (h0 : 1 ≤ m) (h1 : m ≤ 13) : 0 ≤ cum y m ∧ cum y m ≤ 366 := by
  have a := cum_mono y h0
  have b := cum_mono y h1
  rw [cum_1] at a
  rw [cum_13] at b
  have := lp_01 y
  omega

set_option maxHeartbeats 1000000 in
theorem http_number (s : ByteArray) (w : World) (hs : s.size = 2) :
    Calls Tryz.prog 54 #[.string s] w fun e w' => e = .returned (.int .i64 (num2 s)) ∧ Ext w w' := by
  have hlt0 : 0 < s.size := by omega
  have hlt1 : 1 < s.size := by omega
  have Hno := Lib.hid (@num2_no s hs)
  have Hyes := Lib.hid (@num2_yes s hs)
  have hub0 := UInt8.toNat_lt s[0]
  have hub1 := UInt8.toNat_lt s[1]
  by_cases hd : ((s[0].toNat : Int) < 48 ∨ 57 < (s[0].toNat : Int)) ∨ ((s[1].toNat : Int) < 48 ∨ 57 < (s[1].toNat : Int))
  · have Hn := Lib.hid (Hno.out (hd.imp dgB_no dgB_no))
    go_enter Tryz.func54, Tryz.ntmps54
    by_cases a0 : (s[0].toNat : Int) < 48
    · clear hd
      go_wp2_with fail
      all_goals (go_ret; exact ⟨ret_i Hn.out.symm, Ext.refl _⟩)
    · by_cases a1 : 57 < (s[0].toNat : Int)
      · clear hd
        go_wp2_with fail
        all_goals (go_ret; exact ⟨ret_i Hn.out.symm, Ext.refl _⟩)
      · by_cases a2 : (s[1].toNat : Int) < 48
        · clear hd
          go_wp2_with fail
          all_goals (go_ret; exact ⟨ret_i Hn.out.symm, Ext.refl _⟩)
        · have a3 : 57 < (s[1].toNat : Int) := by omega
          clear hd
          go_wp2_with fail
          all_goals (go_ret; exact ⟨ret_i Hn.out.symm, Ext.refl _⟩)
  · have a0 : ¬ (s[0].toNat : Int) < 48 := by omega
    have a1 : ¬ 57 < (s[0].toNat : Int) := by omega
    have a2 : ¬ (s[1].toNat : Int) < 48 := by omega
    have a3 : ¬ 57 < (s[1].toNat : Int) := by omega
    have Hn := Lib.hid (Hyes.out (dgB_yes a0 a1) (dgB_yes a2 a3))
    clear hd
    go_enter Tryz.func54, Tryz.ntmps54
    go_wp2_with fail
    go_region
    all_goals (try go_wp2_with fail)
    all_goals (go_ret; exact ⟨ret_i Hn.out.symm, (Ext.refl _).drew⟩)

set_option maxHeartbeats 1000000 in
theorem http_Day (y : Int) (m : Nat) (d : Int) (w : World) (h0 : 0 ≤ y) (h1 : y ≤ 9999) (hm : m ≤ 12) (hd0 : -1 ≤ d) (hd1 : d ≤ 99) (hg : GlH w) :
    Calls Tryz.prog 55 #[.int .i64 y, .int .i64 (m : Nat), .int .i64 d] w fun e w' => e = .returned (dayV y m d) ∧ w' = w := by
  have Hno := Lib.hid (@dayV_no y m d)
  have Hyes := Lib.hid (@dayV_yes y m d)
  by_cases a1 : y < 1970
  · have Hn := Lib.hid (Hno.out (fun h => by have := h.1; omega))
    go_enter Tryz.func55, Tryz.ntmps55
    go_wp2_with fail
    all_goals (go_ret2; exact ⟨ret_v Hn.out.symm, rfl⟩)
  by_cases a2 : m < 1
  · have Hn := Lib.hid (Hno.out (fun h => by have := h.2.2.1; omega))
    obtain rfl : m = 0 := by omega
    have hle : ¬ (9999 : Int) < y := by omega
    go_enter Tryz.func55, Tryz.ntmps55
    go_wp2_with fail
    all_goals (go_ret2; exact ⟨ret_v Hn.out.symm, rfl⟩)
  by_cases a3 : d < 1
  · have Hn := Lib.hid (Hno.out (fun h => by have := h.2.2.2.2.1; omega))
    have hle : ¬ (9999 : Int) < y := by omega
    have hm1 : ¬ (m : Int) < 1 := by omega
    have hm2 : ¬ (12 : Int) < (m : Int) := by omega
    go_enter Tryz.func55, Tryz.ntmps55
    go_wp2_with fail
    all_goals (go_ret2; exact ⟨ret_v Hn.out.symm, rfl⟩)
  have hle : ¬ (9999 : Int) < y := by omega
  have hm1 : ¬ (m : Int) < 1 := by omega
  have hm2 : ¬ (12 : Int) < (m : Int) := by omega
  have hmo := Lib.hid (http_month y m w h0 (by omega) (by omega) hm hg)
  have hml := ml_bd y m
  by_cases a4 : ml y m < d
  · have Hn := Lib.hid (Hno.out (fun h => by have := h.2.2.2.2.2; omega))
    go_enter Tryz.func55, Tryz.ntmps55
    go_wp2_with fail
    refine hmo.out.mono ?_; rintro e w1 ⟨rfl, rfl⟩
    go_wp2_with fail
    all_goals (go_ret2; exact ⟨ret_v Hn.out.symm, rfl⟩)
  · have Hn := Lib.hid (Hyes.out ⟨by omega, by omega, by omega, hm, by omega, by omega⟩)
    have hbb := bef_bd (y := y) (by omega) (by omega)
    go_enter Tryz.func55, Tryz.ntmps55
    go_wp2_with fail
    refine hmo.out.mono ?_; rintro e w1 ⟨rfl, rfl⟩
    go_wp2_with fail
    refine (http_before y _ (by omega) (by omega)).mono ?_; rintro e w2 ⟨rfl, rfl⟩
    go_wp2_with fail
    go_loopw [8, 9] (fun n i wr => ∃ k : Nat, 1 ≤ k ∧ k ≤ m ∧ n = .int .i64 (bef y + d - 1 + cum y k) ∧ i = .int .i64 (k : Nat) ∧ wr = w2) (fun _ i _ => m - (intOf i).toNat)
    case atStart => exact ⟨1, Nat.le_refl _, by omega, by rw [cum_1, Int.add_zero], rfl, rfl⟩
    case round =>
      obtain ⟨k, hk1, hk, rfl, rfl, rfl⟩ := hrel
      have hcb := cum_bd y hk1 (by omega)
      by_cases hlt : k < m
      · have Hcs := Lib.hid (cum_succ y k (by omega))
        have hmb := ml_bd y k
        go_wp2_with fail
        refine (http_month y k _ h0 (by omega) hk1 (by omega) hg).mono ?_; rintro e w3 ⟨rfl, rfl⟩
        go_wp2_with fail
        go_roundw
        case rel => exact ⟨k + 1, by omega, by omega, by rw [Hcs.out]; go_num, by go_num, trivial⟩
        case measure => simp [intOf]; omega
      · obtain rfl : k = m := by omega
        have Hz := Lib.hid (show Value.tuple #[.int .i64 (bef y + d - 1 + cum y k), .nilIface] = dayV y k d by rw [Hn.out]; unfold dayN; rw [show bef y + d - 1 + cum y k = bef y + cum y k + d - 1 by omega])
        go_wp2_with fail
        go_ret2
        exact ⟨ret_v Hz.out, rfl⟩

theorem results_tmp4 {fn : Func} {t u v x : Tmp} (h : fn.results = #[.tmp t, .tmp u, .tmp v, .tmp x]) (tmps : Array Value) (P : Program) (w : World) :
    (results fn tmps).run P w = .ok (.tuple #[tmps.getD t undef, tmps.getD u undef, tmps.getD v undef, tmps.getD x undef]) w := by
  simp [results, h]
/-- What Date returns. -/
def dateV (d : Int) : Value := .tuple #[.int .i64 (yOf d), .int .i64 (mOf d : Nat), .int .i64 (dOf d), .nilIface]
theorem dateV_of {d y : Int} {m : Nat} {r : Int} (h0 : 0 ≤ d) (h1 : d ≤ 2932896) (hk : okD y m r) (he : dayN y m r = d) : dateV d = .tuple #[.int .i64 y, .int .i64 (m : Nat), .int .i64 r, .nilIface] := by
  obtain ⟨a, b⟩ := date_ok h0 h1
  obtain ⟨e1, e2, e3⟩ := day_one hk a (he.trans b.symm)
  unfold dateV
  rw [← e1, ← e2, ← e3]

set_option maxHeartbeats 1000000 in
theorem http_Date (d : Int) (w : World) (h0 : 0 ≤ d) (h1 : d ≤ 2932896) (hg : GlH w) :
    Calls Tryz.prog 79 #[.int .i64 d] w fun e w' => e = .returned (dateV d) ∧ w' = w := by
  have Hd := Lib.hid (fun y m r => @dateV_of d y m r)
  obtain ⟨hg1, hg2⟩ := bef_guess d h0 h1
  have Hg := Lib.hid hg1; clear hg1
  go_enter Tryz.func79, Tryz.ntmps79
  go_wp2_with fail
  go_loopw [2] (fun y wr => ∃ z : Int, 1970 ≤ z ∧ z ≤ 9999 ∧ bef z ≤ d ∧ y = .int .i64 z ∧ wr = w) (fun y _ => (9999 - intOf y).toNat)
  case atStart => exact ⟨1970 + d / 366, by omega, by omega, Hg.out, rfl, rfl⟩
  case round =>
    obtain ⟨z, hz0, hz1, hzb, rfl, rfl⟩ := hrel
    have Hzb := Lib.hid hzb
    have hbz := bef_bd hz0 (by omega)
    have hbs := bef_bd (y := z + 1) (by omega) (by omega)
    by_cases hc : z < 9999 ∧ bef (z + 1) ≤ d
    · obtain ⟨hc1, hc2⟩ := hc
      go_wp2_with fail
      refine (http_before (z + 1) _ (by omega) (by omega)).mono ?_; rintro e w1 ⟨rfl, rfl⟩
      go_wp2_with fail
      go_roundw
      case rel => exact ⟨z + 1, by omega, by omega, hc2, by go_num, trivial⟩
      case measure => simp [intOf]; omega
    · have hnx : d < bef (z + 1) := by
        by_cases hz9 : z < 9999
        · omega
        · obtain rfl : z = 9999 := by omega
          have : bef (9999 + 1) = 2932897 := bef_10000
          omega
      have Hnx := Lib.hid hnx
      have hbsu := Lib.hid (bef_succ z (by omega))
      by_cases hz9 : z < 9999
      rotate_left
      · clear hc
        go_wp2_with fail
        refine (http_before z _ (by omega) (by omega)).mono ?_; rintro e w2 ⟨rfl, rfl⟩
        go_wp2_with fail
        go_loopw [0, 3] (fun r m wr => ∃ k : Nat, 1 ≤ k ∧ k ≤ 12 ∧ r = .int .i64 (d - bef z - cum z k) ∧ 0 ≤ d - bef z - cum z k ∧ m = .int .i64 (k : Nat) ∧ wr = w2) (fun _ m _ => 12 - (intOf m).toNat)
        case atStart => exact ⟨1, Nat.le_refl _, by omega, by rw [cum_1, Int.sub_zero], by rw [cum_1]; omega, rfl, rfl⟩
        case round =>
          obtain ⟨k, hk1, hk, rfl, hr0, rfl, rfl⟩ := hrel
          have hcb := cum_bd z hk1 (by omega)
          have hmb := ml_bd z k
          have Hcs := Lib.hid (cum_succ z k (by omega))
          have hlp := lp_01 z
          by_cases hge : ml z k ≤ d - bef z - cum z k
          · have hk12 : k < 12 := by
              by_cases h12 : k < 12
              · exact h12
              · obtain rfl : k = 12 := by omega
                have a := Hcs.out
                have b := cum_13 z
                have c := hbsu.out
                have e : cum z (12 + 1) = cum z 13 := rfl
                omega
            go_wp2_with fail
            refine (http_month z k _ (by omega) (by omega) hk1 hk hg).mono ?_; rintro e w3 ⟨rfl, rfl⟩
            go_wp2_with fail
            refine (http_month z k _ (by omega) (by omega) hk1 hk hg).mono ?_; rintro e w4 ⟨rfl, rfl⟩
            go_wp2_with fail
            go_roundw
            case rel => exact ⟨k + 1, by omega, by omega, by rw [Hcs.out]; go_num, by rw [Hcs.out]; omega, by go_num, trivial⟩
            case measure => simp [intOf]; omega
          · have He := Lib.hid (Hd.out z k (d - bef z - cum z k + 1) h0 h1 ⟨hz0, hz1, hk1, hk, by omega, by omega⟩ (by unfold dayN; omega))
            go_wp2_with fail
            refine (http_month z k _ (by omega) (by omega) hk1 hk hg).mono ?_; rintro e w3 ⟨rfl, rfl⟩
            go_wp2_with fail
            (try simp only [Exit.inBlock, Exit.then]); refine bodyPost_ret (results_tmp4 rfl _ _ _) rfl ?_
            exact ⟨ret_v He.out.symm, rfl⟩
      · clear hc
        go_wp2_with fail
        refine (http_before (z + 1) _ (by omega) (by omega)).mono ?_; rintro e w1 ⟨rfl, rfl⟩
        go_wp2_with fail
        refine (http_before z _ (by omega) (by omega)).mono ?_; rintro e w2 ⟨rfl, rfl⟩
        go_wp2_with fail
        go_loopw [0, 3] (fun r m wr => ∃ k : Nat, 1 ≤ k ∧ k ≤ 12 ∧ r = .int .i64 (d - bef z - cum z k) ∧ 0 ≤ d - bef z - cum z k ∧ m = .int .i64 (k : Nat) ∧ wr = w2) (fun _ m _ => 12 - (intOf m).toNat)
        case atStart => exact ⟨1, Nat.le_refl _, by omega, by rw [cum_1, Int.sub_zero], by rw [cum_1]; omega, rfl, rfl⟩
        case round =>
          obtain ⟨k, hk1, hk, rfl, hr0, rfl, rfl⟩ := hrel
          have hcb := cum_bd z hk1 (by omega)
          have hmb := ml_bd z k
          have Hcs := Lib.hid (cum_succ z k (by omega))
          have hlp := lp_01 z
          by_cases hge : ml z k ≤ d - bef z - cum z k
          · have hk12 : k < 12 := by
              by_cases h12 : k < 12
              · exact h12
              · obtain rfl : k = 12 := by omega
                have a := Hcs.out
                have b := cum_13 z
                have c := hbsu.out
                have e : cum z (12 + 1) = cum z 13 := rfl
                omega
            go_wp2_with fail
            refine (http_month z k _ (by omega) (by omega) hk1 hk hg).mono ?_; rintro e w3 ⟨rfl, rfl⟩
            go_wp2_with fail
            refine (http_month z k _ (by omega) (by omega) hk1 hk hg).mono ?_; rintro e w4 ⟨rfl, rfl⟩
            go_wp2_with fail
            go_roundw
            case rel => exact ⟨k + 1, by omega, by omega, by rw [Hcs.out]; go_num, by rw [Hcs.out]; omega, by go_num, trivial⟩
            case measure => simp [intOf]; omega
          · have He := Lib.hid (Hd.out z k (d - bef z - cum z k + 1) h0 h1 ⟨hz0, hz1, hk1, hk, by omega, by omega⟩ (by unfold dayN; omega))
            go_wp2_with fail
            refine (http_month z k _ (by omega) (by omega) hk1 hk hg).mono ?_; rintro e w3 ⟨rfl, rfl⟩
            go_wp2_with fail
            (try simp only [Exit.inBlock, Exit.then]); refine bodyPost_ret (results_tmp4 rfl _ _ _) rfl ?_
            exact ⟨ret_v He.out.symm, rfl⟩
end Go.Proofs.YtjacgdjnocpodaaGreatDoor
