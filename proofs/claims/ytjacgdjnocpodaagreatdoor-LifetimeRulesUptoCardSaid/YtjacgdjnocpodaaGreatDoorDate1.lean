
/- The walks of the package httpdate's small functions: leap, month, before, Day, Date, Weekday, two, number. -/
import Derived.Test.YtjacgdjnocpodaaGreatDoorCal
import Derived.Test.YtjacgdjnocpodaaGreatDoorErr
namespace Go.Proofs.YtjacgdjnocpodaaGreatDoor
open Go.RowKit

def moL : List ByteArray := [⟨#[74, 97, 110]⟩, ⟨#[70, 101, 98]⟩, ⟨#[77, 97, 114]⟩, ⟨#[65, 112, 114]⟩, ⟨#[77, 97, 121]⟩, ⟨#[74, 117, 110]⟩, ⟨#[74, 117, 108]⟩, ⟨#[65, 117, 103]⟩, ⟨#[83, 101, 112]⟩, ⟨#[79, 99, 116]⟩, ⟨#[78, 111, 118]⟩, ⟨#[68, 101, 99]⟩]
def wdL : List ByteArray := [⟨#[83, 117, 110]⟩, ⟨#[77, 111, 110]⟩, ⟨#[84, 117, 101]⟩, ⟨#[87, 101, 100]⟩, ⟨#[84, 104, 117]⟩, ⟨#[70, 114, 105]⟩, ⟨#[83, 97, 116]⟩]
def leL : List Int := [31, 28, 31, 30, 31, 30, 31, 31, 30, 31, 30, 31]
/-- The package's three tables hold what their text says. -/
def GlH (w : World) : Prop := RdS w (some ⟨0, 0, none⟩) 12 moL ∧ RdS w (some ⟨1, 0, none⟩) 7 wdL ∧ Rd w 1 (some ⟨3, 0, none⟩) 12 (leL.map (Value.int .i64))
theorem GlH.ext {w w' : World} (h : GlH w) (hb : Ext w w') : GlH w' := ⟨h.1.ext hb, h.2.1.ext hb, h.2.2.ext hb⟩
theorem GlH.len {w : World} (h : GlH w) {k : Nat} (hk : k < 12) : w.cell? ⟨3, k, none⟩ = some (.int .i64 (leL[k]'(by simpa [leL] using hk))) := by
  obtain ⟨b, o, e, hc⟩ := h.2.2.2 (by decide)
  injection e with e; injection e with e1 e2
  subst e1; subst e2
  have := hc k _ (by rw [List.getElem?_map, List.getElem?_eq_getElem (by simpa [leL] using hk)]; rfl)
  rwa [Nat.zero_add] at this
theorem GlH.mon {w : World} (h : GlH w) {k : Nat} (hk : k < 12) : w.cell? ⟨0, k, none⟩ = some (.string (moL[k]'(by simpa [moL] using hk))) := by
  obtain ⟨b, o, e, hc⟩ := h.1.atS (k := k) (by simpa [moL] using hk)
  injection e with e; injection e with e1 e2
  subst e1; subst e2
  rwa [Nat.zero_add] at hc
theorem GlH.wkd {w : World} (h : GlH w) {k : Nat} (hk : k < 7) : w.cell? ⟨1, k, none⟩ = some (.string (wdL[k]'(by simpa [wdL] using hk))) := by
  obtain ⟨b, o, e, hc⟩ := h.2.1.atS (k := k) (by simpa [wdL] using hk)
  injection e with e; injection e with e1 e2
  subst e1; subst e2
  rwa [Nat.zero_add] at hc
theorem ret_i {k : IntKind} {a b : Int} (h : a = b) : Ending.returned (.int k a) = .returned (.int k b) := by rw [h]
theorem leL_ml (y : Int) {m : Nat} (h1 : 1 ≤ m) (h2 : m ≤ 12) (h3 : m ≠ 2) : leL[m - 1]'(by show m - 1 < 12; omega) = ml y m := by
  have : m = 1 ∨ m = 3 ∨ m = 4 ∨ m = 5 ∨ m = 6 ∨ m = 7 ∨ m = 8 ∨ m = 9 ∨ m = 10 ∨ m = 11 ∨ m = 12 := by omega
  rcases this with h | h | h | h | h | h | h | h | h | h | h <;> subst h <;> rfl
theorem ml_2 (y : Int) : ml y 2 = 28 + lp y := rfl

set_option maxHeartbeats 1000000 in
theorem http_leap (y : Int) (w : World) (h0 : 0 ≤ y) (h1 : y ≤ 1000000) :
    Calls Tryz.prog 95 #[.int .i64 y] w fun e w' => e = .returned (.bool (lpB y)) ∧ w' = w := by
  have Hl := Lib.hid (show lpB y = ((y % 4 == 0 && y % 100 != 0) || y % 400 == 0) from rfl)
  generalize lpB y = b at *
  cases h4 : (y % 4 == 0) <;> cases h100 : (y % 100 == 0) <;> cases h400 : (y % 400 == 0)
  all_goals
    have hn : (y % 100 != 0) = !(y % 100 == 0) := rfl
    rw [h100] at hn
    rw [h4, hn, h400] at Hl
    simp only [Bool.not_false, Bool.not_true] at hn
    go_enter Tryz.func95, Tryz.ntmps95
    go_wp2_with fail
    go_ret
    exact ⟨congrArg (fun x => Ending.returned (.bool x)) (by rw [Hl.out]; rfl), rfl⟩

set_option maxHeartbeats 1000000 in
theorem http_month (y : Int) (m : Nat) (w : World) (h0 : 0 ≤ y) (h1 : y ≤ 1000000) (hm1 : 1 ≤ m) (hm2 : m ≤ 12) (hg : GlH w) :
    Calls Tryz.prog 77 #[.int .i64 y, .int .i64 (m : Nat)] w fun e w' => e = .returned (.int .i64 (ml y m)) ∧ w' = w := by
  by_cases h2 : m = 2
  · subst h2
    have hc := hg.len (k := 1) (by decide)
    have Hc := Lib.hid hc; clear hc
    go_enter Tryz.func77, Tryz.ntmps77
    go_wp2_with fail
    refine (http_leap y _ h0 h1).mono ?_; rintro e w1 ⟨rfl, rfl⟩
    cases hl : lpB y
    · have Hv := Lib.hid (show (28 : Int) = ml y 2 by rw [ml_2]; unfold lp; rw [hl]; rfl)
      have hc : w1.cell? ⟨3, 1, none⟩ = some (.int .i64 28) := Hc.out
      go_wp2_with fail
      go_ret
      exact ⟨ret_i Hv.out, rfl⟩
    · have Hv := Lib.hid (show (29 : Int) = ml y 2 by rw [ml_2]; unfold lp; rw [hl]; rfl)
      go_wp2_with fail
      go_ret
      exact ⟨ret_i Hv.out, rfl⟩
  · have hc := hg.len (k := m - 1) (by omega)
    have Hv := Lib.hid (leL_ml y hm1 hm2 h2)
    have hz : ((m : Int) == 2) = false := by rw [beq_eq_false_iff_ne]; omega
    generalize leL[m - 1]'(by show m - 1 < 12; omega) = L at *
    have hi : ((m : Int) - 1).toNat = m - 1 := by omega
    clear h2
    go_enter Tryz.func77, Tryz.ntmps77
    go_wp2_with fail
    go_ret
    exact ⟨ret_i Hv.out, rfl⟩

set_option maxHeartbeats 1000000 in
theorem http_before (y : Int) (w : World) (h0 : 1970 ≤ y) (h1 : y ≤ 1000000) :
    Calls Tryz.prog 78 #[.int .i64 y] w fun e w' => e = .returned (.int .i64 (bef y)) ∧ w' = w := by
  go_enter Tryz.func78, Tryz.ntmps78
  go_wp2_with fail
  go_ret
  exact ⟨ret_i (by unfold bef; rfl), rfl⟩

def wkN (d : Int) : Int := ((d % 7 + 4) % 7 + 7) % 7
theorem wkN_bd (d : Int) : 0 ≤ wkN d ∧ wkN d < 7 := by unfold wkN; omega
set_option maxHeartbeats 1000000 in
theorem http_Weekday (d : Int) (w : World) (h0 : 0 ≤ d) (h1 : d ≤ 1000000000) :
    Calls Tryz.prog 80 #[.int .i64 d] w fun e w' => e = .returned (.int .i64 (wkN d)) ∧ w' = w := by
  go_enter Tryz.func80, Tryz.ntmps80
  go_wp2_with fail
  go_ret
  exact ⟨ret_i (by unfold wkN; omega), rfl⟩

def digU (n : Int) : UInt8 := UInt8.ofNat (48 + n).toNat
def twoS (n : Int) : ByteArray := ⟨#[digU (n / 10), digU (n % 10)]⟩
theorem conv_two (a b : Int) (w : World) : (convert 80 9 (.slice (some ⟨w.heap.size, 0, none⟩) 2 2)).run Tryz.prog (w.alloc (.cells #[.int .u8 a, .int .u8 b] 5)) =
    .ok (.string ⟨#[UInt8.ofNat a.toNat, UInt8.ofNat b.toNat]⟩) (w.alloc (.cells #[.int .u8 a, .int .u8 b] 5)) :=
  run_convert_bytes_arg (P := Tryz.prog) _ 80 5 Tryz.underlying80 Tryz.underlying5 w.heap.size 0 2 2 [a, b] rfl
    (fun i hi => by
      rw [World.cell?_alloc_mark]
      have : i = 0 ∨ i = 1 := by omega
      rcases this with rfl | rfl <;> rfl) 9 Tryz.underlying9
set_option maxHeartbeats 1000000 in
theorem http_two (n : Int) (w : World) (h0 : 0 ≤ n) (h1 : n ≤ 99) :
    Calls Tryz.prog 81 #[.int .i64 n] w fun e w' => e = .returned (.string (twoS n)) ∧ Ext w w' := by
  have hcv := conv_two
  go_enter Tryz.func81, Tryz.ntmps81
  go_wp2_with fail
  go_ret
  exact ⟨congrArg (fun x => Ending.returned (.string x)) (by unfold twoS digU; rfl), (Ext.refl w).alloc _⟩

/-- The number of two digits; -1 if they are none. -/
def dgB (c : UInt8) : Bool := !(decide ((c.toNat : Int) < 48) || decide (57 < (c.toNat : Int)))
def num2 (s : ByteArray) : Int := if h : s.size = 2 then (if dgB s[0] && dgB s[1] then 10 * ((s[0].toNat : Int) - 48) + ((s[1].toNat : Int) - 48) else -1) else -1
theorem dgB_yes {c : UInt8} (h1 : ¬ (c.toNat : Int) < 48) (h2 : ¬ 57 < (c.toNat : Int)) : dgB c = true := by
  unfold dgB; rw [decide_eq_false h1, decide_eq_false h2]; rfl
theorem dgB_no {c : UInt8} (h : (c.toNat : Int) < 48 ∨ 57 < (c.toNat : Int)) : dgB c = false := by
  unfold dgB; rcases h with h | h
  · rw [decide_eq_true h]; rfl
  · rw [decide_eq_true h, Bool.or_true]; rfl
theorem num2_yes {s : ByteArray} (hs : s.size = 2) (h0 : dgB s[0] = true) (h1 : dgB s[1] = true) : num2 s = 10 * ((s[0].toNat : Int) - 48) + ((s[1].toNat : Int) - 48) := by
  unfold num2; rw [dif_pos hs, h0, h1]; rfl
theorem num2_no {s : ByteArray} (hs : s.size = 2) (h : dgB s[0] = false ∨ dgB s[1] = false) : num2 s = -1 := by
  unfold num2; rw [dif_pos hs, if_neg]
  rcases h with h | h <;> rw [h] <;> simp
theorem num2_bd (s : ByteArray) : -1 ≤ num2 s ∧ num2 s ≤ 99 := by
  unfold num2
  split
  · split
    · rename_i h
      simp only [dgB, Bool.and_eq_true, Bool.not_eq_true', Bool.or_eq_false_iff, decide_eq_false_iff_not] at h
      omega
    · omega
  · omega
end Go.Proofs.YtjacgdjnocpodaaGreatDoor
