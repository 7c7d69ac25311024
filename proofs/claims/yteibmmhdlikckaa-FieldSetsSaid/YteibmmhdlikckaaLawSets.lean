/- FieldSets returns true: the walk. -/
import Derived.Test.YteibmmhdlikckaaAre
namespace Go.Proofs.Yteibmmhdlikckaa
open Go.RowKit

/-- A row of the call's own that may be written: its block lies from lo on and below hi. -/
def Wr (w : World) (A : Option Addr) (lo hi t N : Nat) : Prop := 0 < N → ∃ g cur, A = some ⟨g, 0, none⟩ ∧ lo ≤ g ∧ g < hi ∧ w.heap[g]? = some (.cells cur t (0, 0)) ∧ N ≤ cur.size
theorem Wr.of_own {w : World} {lo e k n c hi : Nat} {A : Option Addr} {xs : List Value} (h : w.ownsRow lo e k (.slice A n c) n xs) (hh : w.heap.size ≤ hi) : Wr w A lo hi e (n * k) := by
  intro hN
  rcases h.2 with ⟨hv, h0⟩ | ⟨g, cap, cur, hv, hlo, hg, hle, _, hcs, _⟩
  · subst h0; simp at hN
  · have hA : A = some ⟨g, 0, none⟩ := by injection hv
    exact ⟨g, cur, hA, hlo, Nat.lt_of_lt_of_le (Array.getElem?_eq_some_iff.1 hg).1 hh, hg, by rw [hcs]; injection hv with _ _ hcc; subst hcc; exact Nat.mul_le_mul_right _ hle⟩
theorem Wr.ext {w w' : World} {A : Option Addr} {lo hi t N : Nat} (h : Wr w A lo hi t N) (hb : Ext w w') : Wr w' A lo hi t N := by
  intro hN
  obtain ⟨g, cur, hA, hlo, hhi, hg, hc⟩ := h hN
  exact ⟨g, cur, hA, hlo, hhi, (hb.below.block g (Array.getElem?_eq_some_iff.1 hg).1).trans hg, hc⟩
theorem Wr.far {w : World} {A : Option Addr} {lo hi t N : Nat} (h : Wr w A lo hi t N) {p : Addr} (hp : p.block < lo ∨ hi ≤ p.block) (u : Value) : Wr (w.setCell p u) A lo hi t N := by
  intro hN
  obtain ⟨g, cur, hA, hlo, hhi, hg, hc⟩ := h hN
  exact ⟨g, cur, hA, hlo, hhi, (Below.heap_setCell w p u g (by omega)).trans hg, hc⟩
theorem Wr.near {w : World} {A : Option Addr} {lo hi t N : Nat} (h : Wr w A lo hi t N) {g j : Nat} (hA : A = some ⟨g, 0, none⟩) (u : Value) : Wr (w.setCell ⟨g, j, none⟩ u) A lo hi t N := by
  intro hN
  obtain ⟨g', cur, hA', hlo, hhi, hg, hc⟩ := h hN
  rw [hA] at hA'
  injection hA' with hA'
  injection hA' with hgg
  subst hgg
  refine ⟨g, cur.setIfInBounds j u, hA, hlo, hhi, ?_, by simpa using hc⟩
  simp [World.setCell, Array.getElem?_modify, hg]
theorem Wr.at_ {w : World} {A : Option Addr} {lo hi t N : Nat} (h : Wr w A lo hi t N) {j : Nat} (hj : j < N) : ∃ g v, A = some ⟨g, 0, none⟩ ∧ lo ≤ g ∧ g < hi ∧ w.cell? ⟨g, j, none⟩ = some v ∧ w.frozen? ⟨g, j, none⟩ = false := by
  obtain ⟨g, cur, hA, hlo, hhi, hg, hc⟩ := h (by omega)
  refine ⟨g, cur[j]'(by omega), hA, hlo, hhi, ?_, by simp [World.frozen?, hg]⟩
  rw [cell_of_row w g j cur t (0, 0) hg]
  exact Array.getElem?_eq_getElem (by omega)

set_option maxHeartbeats 2000000 in
theorem law_FieldSets (A : Option Addr) (n c : Nat) (fs : List Fd) (name value : ByteArray) (w : World) (hf : RdF w A n fs)
    (hn : n ≤ 9223372036854775807) (hc : n ≤ c) (hs : name.size ≤ 140737488355328) (hs2 : value.size ≤ 140737488355328) (B : Nat) (hB : B ≤ 140737488355328) (hsz : Bsz B fs) :
    Calls Try.prog 6 #[.slice A n c, .string name, .string value] w fun e w' => e = .returned (.bool true) ∧ Ext w w' := by
  have hl := hf.lenF
  go_enter Try.func6, Try.ntmps6
  have Hl := Lib.hid hl; clear hl
  go_wp2_with fail
  refine (law_awake _).mono ?_; rintro e w1 ⟨rfl, hb1⟩
  go_wp2_with fail
  have hf1 := hf.ext hb1
  refine (law_small _ _ _ _ _ hf1 hn B hB hsz).mono ?_; rintro e w2 ⟨rfl, hb2⟩
  have hf2 := hf1.ext hb2
  have hbe2 := hb1.trans hb2
  cases hsm : smallS fs
  · clear hsm
    go_wp2_with fail
    refine (law_awake _).mono ?_; rintro e w3 ⟨rfl, hb3⟩
    go_wp2_with fail
    go_ret
    exact ⟨rfl, hbe2.trans hb3⟩
  · obtain ⟨hs1, hs4⟩ := gets_small hsm
    have hn70 : n ≤ 70 := by have := Hl.out; omega
    have hbs := (small_bsz hs4).mono (show 6000 ≤ 4611686018427387904 by omega)
    clear hsm
    by_cases hnv : name.size + value.size ≤ 1000
    · go_wp2_with fail
      refine (law_Fields _ _ _ _ _ hf2 (by omega)).mono ?_; rintro e w3 ⟨A3, c3, rfl, hf3, hc3, hb3, -⟩
      have hg3 := hf2.ext hb3
      go_wp2_with fail
      refine (field_Set _ _ _ _ _ _ _ hf3 (by omega) (by omega) hbs).mono ?_; rintro e w4 ⟨A4, n4, c4, rfl, hr4, hc4, hb4, hown4⟩
      go_wp2_with fail
      refine (field_Add _ _ _ _ _ _ _ (hf3.ext hb4) (by omega) (by omega)).mono ?_; rintro e w5 ⟨A5, c5, rfl, hr5, hc5, hb5, hown5⟩
      go_wp2_with fail
      refine (field_Remove _ _ _ _ _ _ ((hf3.ext hb4).ext hb5) (by omega) (by omega) hbs).mono ?_; rintro e w6 ⟨A6, n6, c6, rfl, hr6, hc6, hb6, -⟩
      have hb46 := (hb4.trans hb5).trans hb6
      have hg6 := hg3.ext hb46
      have hl4 := hr4.lenF
      have hl6 := hr6.lenF
      have hn4 : n4 ≤ 71 := by have := setS_len name value fs; have := Hl.out; omega
      have hn6 : n6 ≤ 70 := by have := remS_le fs name; have := Hl.out; omega
      clear hl4 hl6
      have hwr4 : Wr w6 A4 w3.heap.size w4.heap.size 41 (n4 * 2) := ((Wr.of_own hown4 (Nat.le_refl _)).ext hb5).ext hb6
      have hwr5 : Wr w6 A5 w4.heap.size w5.heap.size 41 ((n + 1) * 2) := (Wr.of_own hown5 (Nat.le_refl _)).ext hb6
      go_wp2_with fail
      refine (ref_Set _ _ _ _ _ _ _ hg6 hc (by omega) (by omega) hbs).mono ?_; rintro e w7 ⟨A7, n7, c7, rfl, hr7, hc7, hb7⟩
      have hn7 : n7 ≤ 71 := by have := hr7.lenF; have := setS_len name value fs; have := Hl.out; omega
      go_wp2_with fail
      refine (law_Are _ _ _ _ _ _ _ _ _ ((hr4.ext (hb5.trans hb6)).ext hb7) hr7 (by omega) (by omega)).mono ?_; rintro e w8 ⟨rfl, hb8⟩
      rw [decide_eq_true rfl]
      have hg8 := (hg6.ext hb7).ext hb8
      go_wp2_with fail
      refine (ref_Add _ _ _ _ _ _ _ hg8 (by omega) (by omega)).mono ?_; rintro e w9 ⟨A9, c9, rfl, hr9, hc9, hb9, -⟩
      go_wp2_with fail
      refine (law_Are _ _ _ _ _ _ _ _ _ ((((hr5.ext hb6).ext hb7).ext hb8).ext hb9) hr9 (by omega) (by omega)).mono ?_; rintro e w10 ⟨rfl, hb10⟩
      rw [decide_eq_true rfl]
      have hg10 := (hg8.ext hb9).ext hb10
      go_wp2_with fail
      refine (ref_Remove _ _ _ _ _ _ hg10 (by omega) (by omega) hbs).mono ?_; rintro e w11 ⟨A11, n11, c11, rfl, hr11, hc11, hb11, -⟩
      have hn11 : n11 ≤ 70 := by have := hr11.lenF; have := remS_le fs name; have := Hl.out; omega
      go_wp2_with fail
      refine (law_Are _ _ _ _ _ _ _ _ _ (((((hr6.ext hb7).ext hb8).ext hb9).ext hb10).ext hb11) hr11 (by omega) (by omega)).mono ?_; rintro e w12 ⟨rfl, hb12⟩
      rw [decide_eq_true rfl]
      have hb612 := ((((hb7.trans hb8).trans hb9).trans hb10).trans hb11).trans hb12
      have hw4 := hwr4.ext hb612
      have hw5 := hwr5.ext hb612
      have hb312 : Ext w3 w12 := hb46.trans hb612
      have hlo : w3.heap.size ≤ w4.heap.size := hb4.size
      have hbw3 : Ext w w3 := hbe2.trans hb3
      clear hr4 hr5 hr6 hr7 hr9 hr11 hown4 hown5 hwr4 hwr5 hb4 hb5 hb6 hb7 hb8 hb9 hb10 hb11 hb12 hb46 hb612 hg6 hg8 hg10 hb1 hb2 hbe2 hb3 hf1 hf2
      go_wp2_with fail
      go_loopg [11, 68] n4 (fun g _ i wr => ∃ k, k ≤ n4 ∧ g = n4 - k ∧ i = .int .i64 (k : Nat) ∧ Ext w3 wr ∧ Wr wr A4 w3.heap.size w4.heap.size 41 (n4 * 2) ∧ Wr wr A5 w4.heap.size w5.heap.size 41 ((n + 1) * 2))
      case atStart => exact ⟨0, Nat.zero_le _, rfl, rfl, hb312, hw4, hw5⟩
      case round =>
        obtain ⟨k, hk, rfl, rfl, hbr, hq4, hq5⟩ := hrel
        by_cases hlt : k < n4
        · obtain ⟨g4, v4, rfl, hlo4, hhi4, hcl, hfr⟩ := hq4.at_ (show k * 2 + 1 < n4 * 2 by omega)
          go_wp2
          go_roundg (n4 - (k + 1))
          case measure => omega
          case rel => exact ⟨k + 1, by omega, rfl, by go_num, hbr.setCell hlo4 _, hq4.near rfl _, hq5.far (.inl hhi4) _⟩
        · obtain rfl : k = n4 := by omega
          go_wp2_with fail
          go_loopg [12, 78] (n + 1) (fun g _ i wi => ∃ k, k ≤ n + 1 ∧ g = n + 1 - k ∧ i = .int .i64 (k : Nat) ∧ Ext w3 wi ∧ Wr wi A5 w4.heap.size w5.heap.size 41 ((n + 1) * 2))
          case atStart => exact ⟨0, Nat.zero_le _, rfl, rfl, hbr, hq5⟩
          case round =>
            obtain ⟨j, hj, rfl, rfl, hbi, hqi⟩ := hrel
            by_cases hjt : j < n + 1
            · obtain ⟨g5, v5, rfl, hlo5, hhi5, hcl, hfr⟩ := hqi.at_ (show j * 2 + 1 < (n + 1) * 2 by omega)
              have hj2 : (j : Int) < (n : Int) + 1 := by omega
              go_wp2
              go_roundg (n + 1 - (j + 1))
              case measure => omega
              case rel => exact ⟨j + 1, by omega, rfl, by go_num, hbi.setCell (Nat.le_trans hlo hlo5) _, hqi.near rfl _⟩
            · obtain rfl : j = n + 1 := by omega
              go_wp2_with fail
              refine (law_Are _ _ _ _ _ _ _ _ _ (hf3.ext hbi) (hg3.ext hbi) (by omega) (by omega)).mono ?_; rintro e w13 ⟨rfl, hb13⟩
              rw [decide_eq_true rfl]
              go_wp2_with fail
              go_ret
              exact ⟨rfl, (hbw3.trans hbi).trans hb13⟩
    · go_wp2_with fail
      refine (law_awake _).mono ?_; rintro e w3 ⟨rfl, hb3⟩
      go_wp2_with fail
      go_ret
      exact ⟨rfl, hbe2.trans hb3⟩
end Go.Proofs.Yteibmmhdlikckaa
