
/- The walks of lifetime.date and negative. -/
import Derived.Test.YtjacgdjnocpodaaGreatDoorPl14
namespace Go.Proofs.YtjacgdjnocpodaaGreatDoor
open Go.RowKit

set_option maxHeartbeats 2000000 in
set_option maxRecDepth 100000 in
theorem life_date (A : Option Addr) (n c : Nat) (fs : List Fd) (name : ByteArray) (w : World) (hf : RdF w A n fs)
    (hn : n ≤ 1073741824) (hs : name.size ≤ 9223372036854775807) (hsz : Bsz 1048576 fs) (hg : GlH w) :
    Calls Tryz.prog 26 #[.slice A n c, .string name] w fun e w' => e = .returned (dtV (dateS fs name)) ∧ Ext w w' := by
  have HA := Lib.hid (field_All A n c fs name w hf hn hs (fun f hf => Nat.le_trans (hsz f hf).1 (by decide)))
  have hv := bsz_vals (name := name) hsz
  have Hd := Lib.hid (show dateS fs name = oneP (allS fs name) from rfl)
  generalize dateS fs name = D at *
  generalize allS fs name = L at *
  have Hv := Lib.hid hv
  clear hv
  go_enter Tryz.func26, Tryz.ntmps26
  go_wp2_with fail
  refine HA.out.mono ?_; rintro e w1 ⟨A1, n1, c1, rfl, hr1, hc1, hb1⟩
  have hl1 := hr1.lenS
  by_cases h1 : n1 = 1
  · subst h1
    match L, hl1 with
    | [v], _ =>
    obtain ⟨b, o, rfl, hc⟩ := hr1.atS (k := 0) Nat.one_pos
    rw [Nat.add_zero] at hc
    have hc : w1.cell? ⟨b, o, none⟩ = some (.string v) := hc
    have HD := Lib.hid (show D = dateP v from Hd.out)
    have Hvs := Lib.hid (Hv.out v (List.mem_cons_self ..))
    have hP := http_Parse v
    generalize dateP v = P at *
    have HP := Lib.hid hP; clear hP hl1
    go_wp2_with fail
    refine (HP.out _ (by have := Hvs.out; omega) (hg.ext hb1)).mono ?_; rintro e w2 ⟨rfl, hb2⟩
    cases P with
    | none =>
      have HD := Lib.hid (show Value.tuple #[.int .i64 0, .bool false] = dtV D by rw [HD.out]; rfl)
      rw [show dpV none = .tuple #[.int .i64 0, .iface 86 (.int .i64 2)] from rfl]
      go_wp2_with fail
      go_region
      all_goals (try go_wp2_with fail)
      all_goals
        go_ret2
        exact ⟨ret_v HD.out, (hb1.trans hb2).drew⟩
    | some k =>
      have HD := Lib.hid (show Value.tuple #[.int .i64 k, .bool true] = dtV D by rw [HD.out]; rfl)
      rw [show dpV (some k) = .tuple #[.int .i64 k, .nilIface] from rfl]
      go_wp2_with fail
      go_region
      all_goals (try go_wp2_with fail)
      all_goals
        go_ret2
        exact ⟨ret_v HD.out, (hb1.trans hb2).drew⟩
  · have hz : ((n1 : Int) != 1) = true := by simp; omega
    have HD := Lib.hid (show Value.tuple #[.int .i64 0, .bool false] = dtV D by rw [Hd.out, oneP_no (by omega)]; rfl)
    clear hl1 h1
    go_wp2_with fail
    go_ret2
    exact ⟨ret_v HD.out, hb1⟩

theorem dtV_some (k : Int) : dtV (some k) = .tuple #[.int .i64 k, .bool true] := rfl
theorem dtV_none : dtV none = .tuple #[.int .i64 0, .bool false] := rfl

/-! Statuses. -/
theorem ret_b {a b : Bool} (h : a = b) : Ending.returned (.bool a) = .returned (.bool b) := by rw [h]
theorem i_ne {a b : Int} (h : a ≠ b) : (a == b) = false := by rw [beq_eq_false_iff_ne]; exact h
set_option maxHeartbeats 2000000 in
set_option maxRecDepth 100000 in
theorem life_negative (st : Int) (w : World) :
    Calls Tryz.prog 21 #[.int .i64 st] w fun e w' => e = .returned (.bool (negS st)) ∧ w' = w := by
  have Hn := Lib.hid (show negS st = (st == 404 || st == 405 || st == 410 || st == 414 || st == 501) from rfl)
  generalize negS st = N at *
  cases h1 : (st == 404)
  rotate_left
  · have HL := Lib.hid (show true = N by rw [Hn.out, h1]; rfl)
    go_enter Tryz.func21, Tryz.ntmps21
    go_wp2_with fail
    go_ret
    exact ⟨ret_b HL.out, rfl⟩
  cases h2 : (st == 405)
  rotate_left
  · have HL := Lib.hid (show true = N by rw [Hn.out, h1, h2]; rfl)
    go_enter Tryz.func21, Tryz.ntmps21
    go_wp2_with fail
    go_ret
    exact ⟨ret_b HL.out, rfl⟩
  cases h3 : (st == 410)
  rotate_left
  · have HL := Lib.hid (show true = N by rw [Hn.out, h1, h2, h3]; rfl)
    go_enter Tryz.func21, Tryz.ntmps21
    go_wp2_with fail
    go_ret
    exact ⟨ret_b HL.out, rfl⟩
  cases h4 : (st == 414)
  rotate_left
  · have HL := Lib.hid (show true = N by rw [Hn.out, h1, h2, h3, h4]; rfl)
    go_enter Tryz.func21, Tryz.ntmps21
    go_wp2_with fail
    go_ret
    exact ⟨ret_b HL.out, rfl⟩
  cases h5 : (st == 501)
  rotate_left
  · have HL := Lib.hid (show true = N by rw [Hn.out, h1, h2, h3, h4, h5]; rfl)
    go_enter Tryz.func21, Tryz.ntmps21
    go_wp2_with fail
    go_ret
    exact ⟨ret_b HL.out, rfl⟩
  · have HL := Lib.hid (show false = N by rw [Hn.out, h1, h2, h3, h4, h5]; rfl)
    go_enter Tryz.func21, Tryz.ntmps21
    go_wp2_with fail
    go_ret
    exact ⟨ret_b HL.out, rfl⟩
end Go.Proofs.YtjacgdjnocpodaaGreatDoor
