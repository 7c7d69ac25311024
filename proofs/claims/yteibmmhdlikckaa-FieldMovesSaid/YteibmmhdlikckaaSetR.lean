/- The walk of quaysideref02.Set. -/
import Derived.Test.YteibmmhdlikckaaSet
import Derived.Deep.RegionLaw
namespace Go.Proofs.Yteibmmhdlikckaa
open Go.RowKit

theorem fldCells_take (fs : List Fd) (i : Nat) : (fldCells fs).take (i * 2) = fldCells (fs.take i) := by
  induction fs generalizing i with
  | nil => simp [fldCells]
  | cons x l ih =>
    cases i with
    | zero => simp [fldCells]
    | succ i =>
      have := ih i
      simp only [fldCells, List.flatMap_cons, List.take_succ_cons] at *
      rw [show (i + 1) * 2 = i * 2 + 2 by omega]
      simp [this]
theorem fldCells_drop (fs : List Fd) (i : Nat) : (fldCells fs).drop (i * 2) = fldCells (fs.drop i) := by
  induction fs generalizing i with
  | nil => simp [fldCells]
  | cons x l ih =>
    cases i with
    | zero => simp
    | succ i =>
      have := ih i
      simp only [fldCells, List.flatMap_cons, List.drop_succ_cons] at *
      rw [show (i + 1) * 2 = i * 2 + 2 by omega]
      simp [this]
theorem Rd.takeF {w : World} {A : Option Addr} {n : Nat} {fs : List Fd} (h : RdF w A n fs) {i : Nat} (hi : i ≤ n) : RdF w A i (fs.take i) := by
  have := h.take hi
  rwa [fldCells_take] at this
theorem Rd.dropF {w : World} {A : Option Addr} {n cap : Nat} {fs : List Fd} (h : RdF w A n fs) {i : Nat} (hi : i ≤ n) (hc : n ≤ cap) : RdF w (if cap = i then A else A.map (·.add (i * 2))) (n - i) (fs.drop i) := by
  have := h.drop hi hc
  rwa [fldCells_drop] at this
theorem Bsz.drop {B : Nat} {fs : List Fd} (h : Bsz B fs) (k : Nat) : Bsz B (fs.drop k) := fun f hf => h f (List.mem_of_mem_drop hf)
theorem setS_split {fs : List Fd} {name value : ByteArray} {k : Nat} (h : k < fs.length) (hno : hasTo fs name k = false) (hy : isN name fs[k] = true) :
    (fs.take k ++ [(lowS name, value)]) ++ remS (fs.drop (k + 1)) name = setS name value fs := by
  have : fs = fs.take k ++ fs[k] :: fs.drop (k + 1) := by rw [← List.drop_eq_getElem_cons h, List.take_append_drop]
  conv => rhs; rw [this]
  rw [setS_first hno hy]; simp

set_option maxHeartbeats 2000000 in
theorem ref_Set (A : Option Addr) (n c : Nat) (fs : List Fd) (name value : ByteArray) (w : World) (hf : RdF w A n fs) (hc : n ≤ c)
    (hn : n ≤ 1073741824) (hs : name.size ≤ 4611686018427387904) (hsz : Bsz 4611686018427387904 fs) :
    Calls Try.prog 24 #[.slice A n c, .string name, .string value] w fun e w' => ∃ A' n' c', e = .returned (.slice A' n' c') ∧ RdF w' A' n' (setS name value fs) ∧ n' ≤ c' ∧ Ext w w' := by
  have hl := hf.lenF
  go_enter Try.func24, Try.ntmps24
  have Hl := Lib.hid hl; clear hl
  go_wp2_with fail
  go_loopg [10] n (fun g i wr => ∃ k, k ≤ n ∧ g = n - k ∧ i = .int .i64 (k : Nat) ∧ hasTo fs name k = false ∧ Ext w wr)
  case atStart => exact ⟨0, Nat.zero_le _, rfl, rfl, rfl, Ext.refl _⟩
  case round =>
    obtain ⟨k, hk, rfl, rfl, hhas, hbr⟩ := hrel
    have Hno := Lib.hid hhas; clear hhas
    by_cases hlt : k < n
    · have hlt' : k < fs.length := by have := Hl.out; omega
      have hF := hf.ext hbr
      obtain ⟨b, o, rfl, hc0, hc1⟩ := hF.atF hlt'
      have hbd := (hsz.at_ hlt').1
      have Hhas := Lib.hid (hasTo_step (name := name) hlt')
      have hOf := fun w => ref_Of fs[k].1 fs[k].2 name w hbd hs
      have HOf := Lib.hid hOf; clear hOf
      by_cases hy : isN name fs[k] = true
      · have Hst := Lib.hid (setS_split (value := value) hlt' Hno.out hy)
        have Hy := Lib.hid hy; clear hy
        go_wp2_with fail
        refine (HOf.out _).mono ?_; rintro e w2 ⟨rfl, hb2⟩
        have hy : isN name (fs[k].1, fs[k].2) = true := Hy.out
        rw [hy]
        have hF2 := hF.ext hb2
        have hk3 : (k : Int) + 1 ≤ (n : Int) := by omega
        have hT := hF2.takeF (show k ≤ n by omega)
        have hD := hF2.dropF (show k + 1 ≤ n by omega) hc
        have hbT := hsz.take k
        have hbD := hsz.drop (k + 1)
        have hlT : (fs.take k).length ≤ k := by simp; omega
        have hlD := remS_le (fs.drop (k + 1)) name
        have hlD2 : (fs.drop (k + 1)).length ≤ n := by have := Hl.out; simp; omega
        have hone := fldCells_one (remS (fs.drop (k + 1)) name)
        generalize fs.take k = T at *
        generalize fs.drop (k + 1) = D at *
        clear hc0 hc1 hy hF hF2
        have HD := Lib.hid hD
        have Hone := Lib.hid hone
        clear hD hone
        have hD3 : RdF w2 (if c = k + 1 then some ⟨b, o, none⟩ else some ⟨b, o + (k + 1) * 2, none⟩) (n - (k + 1)) D := by
          have := HD.out
          simpa [add_plain] using this
        have hkc : (k : Int) ≤ (c : Int) := by omega
        have hk0 : (0 : Int) ≤ (k : Int) + 1 := by omega
        have hwr : IntKind.i64.wrap ((k : Int) + 1) = (k : Int) + 1 := IntWalk.i64_in _ (by omega)
        have hto : ((k : Int) + 1).toNat = k + 1 := by omega
        generalize hAD : (if c = k + 1 then some (⟨b, o, none⟩ : Addr) else some ⟨b, o + (k + 1) * 2, none⟩) = AD at hD3
        have HAD := Lib.hid hAD
        clear hAD
        go_wp2_with fail
        go_region_law (first
            | (go_simp; go_at_call 25; refine (ref_Add _ _ _ T name value _ ?_ (by omega) hs).mono ?_; exact hT; rintro e w3 ⟨A3, c3, rfl, hr3, hle3, hb3, hown3⟩)
            | (go_simp; go_at_call 26; rw [HAD.out]; refine (ref_Remove _ _ _ D name _ ?_ (by omega) hs hbD).mono ?_; exact hD3.drew.ext hb3; rintro e w4 ⟨A4, n4, c4, rfl, hr4, hle4, hb4, hown4⟩; have hn4 := hr4.lenF)
            | (refine step_app _ rfl (.tmp 24) (.tmp 30) 22 rfl w2.drew 40 _ 2 32 Try.underlying22 infoRfd rfl (by decide) _ _ _ rfl (own_ext hown3 hb4) _ _ _ _ rfl hr4 Hone.out (hb3.trans hb4) (by omega) (by decide) ?_; intro A5 c5 w5 hown5 hb5 hle5))
        all_goals
          clear hwr hto hk0 hkc hk3
          rw [← fldCells_app, Hst.out] at hown5
          go_wp2_with fail
          go_ret
          exact ⟨A5, _, c5, rfl, Rd.of_own hown5, hle5, (hbr.trans hb2).drew.trans hb5⟩
      · have hy : isN name fs[k] = false := by simpa using hy
        have Hy := Lib.hid hy; clear hy
        go_wp2_with fail
        refine (HOf.out _).mono ?_; rintro e w2 ⟨rfl, hb2⟩
        have hy : isN name (fs[k].1, fs[k].2) = false := Hy.out
        rw [hy]
        go_wp2_with fail
        go_roundg (n - (k + 1))
        case measure => omega
        case rel => exact ⟨k + 1, by omega, rfl, by go_num, by rw [Hhas.out, Hno.out, Hy.out]; rfl, hbr.trans hb2⟩
    · obtain rfl : k = n := by omega
      have hend : fs ++ [(lowS name, value)] = setS name value fs := by
        rw [setS_not]
        have := Hno.out
        unfold hasTo at this
        rwa [List.take_of_length_le (by have := Hl.out; omega)] at this
      have Hend := Lib.hid hend; clear hend
      go_wp2_with fail
      refine (ref_Add _ _ _ _ _ _ _ (hf.ext hbr) hn hs).mono ?_; rintro e w3 ⟨A3, c3, rfl, hr3, hle3, hb3, -⟩
      rw [Hend.out] at hr3
      go_wp2_with fail
      go_ret
      exact ⟨A3, _, c3, rfl, hr3, hle3, hbr.trans hb3⟩
end Go.Proofs.Yteibmmhdlikckaa
