
/- The calendar, in plain words: days, months, years. No program in sight, no condition. -/
import Derived.Test.YtjacgdjnocpodaaGreatDoorBase
namespace Go.Proofs.YtjacgdjnocpodaaGreatDoor
/-- Is a year a leap year? -/
def lpB (y : Int) : Bool := (y % 4 == 0 && y % 100 != 0) || y % 400 == 0
def lp (y : Int) : Int := if lpB y then 1 else 0
/-- The days from 1970 to the beginning of a year. -/
def bef (y : Int) : Int := 365 * (y - 1970) + (y - 1) / 4 - (y - 1) / 100 + (y - 1) / 400 - 477
theorem lp_cases (y : Int) : (lp y = 1 ∧ ((y % 4 = 0 ∧ y % 100 ≠ 0) ∨ y % 400 = 0)) ∨ (lp y = 0 ∧ ¬ ((y % 4 = 0 ∧ y % 100 ≠ 0) ∨ y % 400 = 0)) := by
  unfold lp
  by_cases h : lpB y = true
  · left
    refine ⟨by rw [if_pos h], ?_⟩
    unfold lpB at h
    simpa using h
  · right
    refine ⟨by rw [if_neg h], ?_⟩
    unfold lpB at h
    simpa using h
theorem bef_succ (y : Int) (_ : 1 ≤ y) : bef (y + 1) = bef y + 365 + lp y := by
  unfold bef
  rcases lp_cases y with ⟨h1, h2⟩ | ⟨h1, h2⟩
  · rw [h1]; omega
  · rw [h1]; omega
theorem bef_1970 : bef 1970 = 0 := by decide
theorem bef_mono {a b : Int} (_ : 1 ≤ a) (h : a ≤ b) : bef a + 365 * (b - a) ≤ bef b := by unfold bef; omega
theorem lp_01 (y : Int) : 0 ≤ lp y ∧ lp y ≤ 1 := by rcases lp_cases y with h | h <;> omega
/-- The days of a month. -/
def ml (y m : Int) : Int := if m = 2 then 28 + lp y else if m = 4 ∨ m = 6 ∨ m = 9 ∨ m = 11 then 30 else 31
theorem ml_bd (y m : Int) : 28 ≤ ml y m ∧ ml y m ≤ 31 := by
  have := lp_01 y
  unfold ml; split
  · omega
  · split <;> omega
/-- The days of a year ahead of a month. -/
def cum (y : Int) : Nat → Int
  | 0 => 0
  | n + 1 => cum y n + (if n = 0 then 0 else ml y n)
theorem cum_1 (y : Int) : cum y 1 = 0 := rfl
theorem cum_succ (y : Int) (n : Nat) (h : 0 < n) : cum y (n + 1) = cum y n + ml y n := by
  show cum y n + _ = _
  rw [if_neg (by omega)]
theorem cum_13 (y : Int) : cum y 13 = 365 + lp y := by
  simp only [cum, ml]
  simp
  omega
theorem cum_mono (y : Int) {a b : Nat} (h : a ≤ b) : cum y a ≤ cum y b := by
  induction b with
  | zero => have : a = 0 := by omega
            subst this; exact Int.le_refl _
  | succ b ih =>
    by_cases hb : a = b + 1
    · subst hb; exact Int.le_refl _
    · have h1 := ih (by omega)
      have h2 := ml_bd y b
      show cum y a ≤ cum y b + _
      split <;> omega
/-- The day of a date. -/
def dayN (y : Int) (m : Nat) (d : Int) : Int := bef y + cum y m + d - 1
/-- A date that there is. -/
def okD (y : Int) (m : Nat) (d : Int) : Prop := 1970 ≤ y ∧ y ≤ 9999 ∧ 1 ≤ m ∧ m ≤ 12 ∧ 1 ≤ d ∧ d ≤ ml y m
theorem day_range {y : Int} {m : Nat} {d : Int} (h : okD y m d) : bef y ≤ dayN y m d ∧ dayN y m d < bef (y + 1) := by
  obtain ⟨h1, h2, h3, h4, h5, h6⟩ := h
  have a := cum_mono y h3
  rw [cum_1] at a
  have b := cum_mono y (show m + 1 ≤ 13 by omega)
  rw [cum_13, cum_succ y m (by omega)] at b
  have c := bef_succ y (by omega)
  unfold dayN
  omega
/-- A day has one date. -/
theorem day_one {y y' : Int} {m m' : Nat} {d d' : Int} (h : okD y m d) (h' : okD y' m' d') (he : dayN y m d = dayN y' m' d') : y = y' ∧ m = m' ∧ d = d' := by
  have r := day_range h
  have r' := day_range h'
  obtain ⟨h1, h2, h3, h4, h5, h6⟩ := h
  obtain ⟨k1, k2, k3, k4, k5, k6⟩ := h'
  have hy : y = y' := by
    rcases Int.lt_trichotomy y y' with hl | hl | hl
    · have := bef_mono (a := y + 1) (b := y') (by omega) (by omega); omega
    · exact hl
    · have := bef_mono (a := y' + 1) (b := y) (by omega) (by omega); omega
  subst hy
  have hm : m = m' := by
    unfold dayN at he
    rcases Nat.lt_trichotomy m m' with hl | hl | hl
    · have := cum_mono y (show m + 1 ≤ m' by omega)
      rw [cum_succ y m (by omega)] at this; omega
    · exact hl
    · have := cum_mono y (show m' + 1 ≤ m by omega)
      rw [cum_succ y m' (by omega)] at this; omega
  subst hm
  unfold dayN at he
  exact ⟨rfl, rfl, by omega⟩
theorem bef_guess (d : Int) (h : 0 ≤ d) (h2 : d ≤ 2932896) : bef (1970 + d / 366) ≤ d ∧ 1970 + d / 366 ≤ 9983 := by unfold bef; omega
theorem bef_10000 : bef 10000 = 2932897 := by decide
theorem day_bd {y : Int} {m : Nat} {d : Int} (h : okD y m d) : 0 ≤ dayN y m d ∧ dayN y m d ≤ 2932896 := by
  have r := day_range h
  have a := bef_mono (a := 1970) (b := y) (by omega) h.1
  have b := bef_mono (a := y + 1) (b := 10000) (by have := h.1; omega) (by have := h.2.1; omega)
  rw [bef_1970] at a
  rw [bef_10000] at b
  have := h.1; have := h.2.1
  omega
/-- The year of a day, by counting. -/
def yGo : Nat → Int → Int → Int
  | 0, y, _ => y
  | n + 1, y, d => if d < bef (y + 1) then y else yGo n (y + 1) d
def yOf (d : Int) : Int := yGo 8030 1970 d
def mGo : Nat → Int → Nat → Int → Nat
  | 0, _, m, _ => m
  | n + 1, y, m, r => if r < cum y (m + 1) then m else mGo n y (m + 1) r
def mOf (d : Int) : Nat := mGo 11 (yOf d) 1 (d - bef (yOf d))
def dOf (d : Int) : Int := d - bef (yOf d) - cum (yOf d) (mOf d) + 1
theorem yGo_ok : ∀ (n : Nat) (y d : Int), 1970 ≤ y → bef y ≤ d → d < bef (y + n) → bef (yGo n y d) ≤ d ∧ d < bef (yGo n y d + 1) ∧ 1970 ≤ yGo n y d ∧ yGo n y d < y + n
  | 0, y, d, h0, h1, h2 => by simp at h2; omega
  | n + 1, y, d, h0, h1, h2 => by
    unfold yGo
    split
    · rename_i h; exact ⟨h1, h, h0, by omega⟩
    · rename_i h
      have := yGo_ok n (y + 1) d (by omega) (by omega) (by rw [show y + 1 + (n : Int) = y + ((n + 1 : Nat) : Int) by omega]; exact h2)
      exact ⟨this.1, this.2.1, this.2.2.1, by omega⟩
theorem mGo_ok : ∀ (n : Nat) (y : Int) (m : Nat) (r : Int), 1 ≤ m → cum y m ≤ r → r < cum y (m + n + 1) → cum y (mGo n y m r) ≤ r ∧ r < cum y (mGo n y m r + 1) ∧ 1 ≤ mGo n y m r ∧ mGo n y m r ≤ m + n
  | 0, y, m, r, h0, h1, h2 => ⟨h1, h2, h0, Nat.le_refl _⟩
  | n + 1, y, m, r, h0, h1, h2 => by
    unfold mGo
    split
    · rename_i h; exact ⟨h1, h, h0, by omega⟩
    · rename_i h
      have := mGo_ok n y (m + 1) r (by omega) (by omega) (by rw [show m + 1 + n + 1 = m + (n + 1) + 1 by omega]; exact h2)
      exact ⟨this.1, this.2.1, this.2.2.1, by omega⟩
/-- Every day has its date. -/
theorem date_ok {d : Int} (h0 : 0 ≤ d) (h1 : d ≤ 2932896) : okD (yOf d) (mOf d) (dOf d) ∧ dayN (yOf d) (mOf d) (dOf d) = d := by
  obtain ⟨a1, a2, a3, a4⟩ := yGo_ok 8030 1970 d (Int.le_refl _) (by rw [bef_1970]; exact h0) (by rw [show (1970 : Int) + ((8030 : Nat) : Int) = 10000 by decide, bef_10000]; omega)
  have hy : yGo 8030 1970 d = yOf d := rfl
  rw [hy] at a1 a2 a3 a4
  have hs := bef_succ (yOf d) (by omega)
  obtain ⟨b1, b2, b3, b4⟩ := mGo_ok 11 (yOf d) 1 (d - bef (yOf d)) (Nat.le_refl _) (by rw [cum_1]; omega) (by rw [show 1 + 11 + 1 = 13 from rfl, cum_13]; omega)
  have hm : mGo 11 (yOf d) 1 (d - bef (yOf d)) = mOf d := rfl
  rw [hm] at b1 b2 b3 b4
  rw [cum_succ _ _ (by omega)] at b2
  refine ⟨⟨a3, by omega, b3, by omega, ?_, ?_⟩, ?_⟩
  · unfold dOf; omega
  · unfold dOf; omega
  · unfold dayN dOf; omega
end Go.Proofs.YtjacgdjnocpodaaGreatDoor
