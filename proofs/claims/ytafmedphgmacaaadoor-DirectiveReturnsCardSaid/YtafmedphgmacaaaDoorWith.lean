
/- The walk of quaysideref11.with. -/
import Derived.Test.YtafmedphgmacaaaDoorElem
import Derived.Outline
namespace Go.Proofs.YtafmedphgmacaaaDoor
open Go.RowKit

theorem dArr_one (d : D) : (dArr d).all (·.oneCell') = true := by simp [dArr, Value.oneCell']
theorem dArr_size (d : D) : (dArr d).size = 12 := rfl

theorem idx_one (l : List UInt8) (c : UInt8) : Lib.index l [c] = if (l.takeWhile (· != c)).length < l.length then ((l.takeWhile (· != c)).length : Int) else -1 := by
  induction l with
  | nil => rfl
  | cons x r ih =>
    unfold Lib.index
    by_cases h : x = c
    · subst h
      have e : List.isPrefixOf [x] (x :: r) = true := by simp [List.isPrefixOf]
      rw [if_pos e]
      simp
    · have e : List.isPrefixOf [c] (x :: r) = false := by simp [List.isPrefixOf]; exact fun e => h e.symm
      rw [e, if_neg (by simp)]
      have ht : (x :: r).takeWhile (· != c) = x :: r.takeWhile (· != c) := by simp [h]
      rw [ht]
      simp only [List.length_cons]
      by_cases h2 : (r.takeWhile (· != c)).length < r.length
      · rw [if_pos h2] at ih
        rw [ih, if_neg (by rw [beq_iff_eq]; omega), if_pos (by omega)]; omega
      · rw [if_neg h2] at ih
        rw [ih, if_pos (by decide), if_neg (by omega)]
theorem tw_len (l : List UInt8) (c : UInt8) {k : Nat} (hk : k ≤ l.length) (h : ∀ j (hj : j < l.length), j < k → l[j] ≠ c) (he : k = l.length ∨ ∃ hj : k < l.length, l[k] = c) : (l.takeWhile (· != c)).length = k := by
  induction l generalizing k with
  | nil => simp at hk; subst hk; rfl
  | cons x r ih =>
    cases k with
    | zero =>
      rcases he with he | ⟨hj, he⟩
      · simp at he
      · have : x = c := he
        subst this; simp
    | succ k =>
      have hx : x ≠ c := h 0 (Nat.succ_pos _) (Nat.succ_pos _)
      have ht : (x :: r).takeWhile (· != c) = x :: r.takeWhile (· != c) := by simp [hx]
      rw [ht, List.length_cons, ih (k := k) (by simpa using hk) (fun j hj hjk => h (j + 1) (by simpa using hj) (by omega)) (by
        rcases he with he | ⟨hj, he⟩
        · exact .inl (by simpa using he)
        · exact .inr ⟨by simpa using hj, he⟩)]
theorem bytes_eta {l : List UInt8} {b : ByteArray} (h : b.data.toList = l) : (⟨l.toArray⟩ : ByteArray) = b := bytes_ext (by rw [← h])
theorem name_at {x : ByteArray} {k : Nat} (hk : k ≤ x.size) (h : ∀ j (hj : j < x.size), j < k → ¬ (x[j].toNat : Int) = 61) (he : k = x.size ∨ ∃ hj : k < x.size, (x[k].toNat : Int) = 61) :
    eqName x = x.extract 0 k ∧ thE x = decide (k < x.size) ∧ (k < x.size → argE x = x.extract (k + 1) x.size) := by
  have hl : x.data.toList.length = x.size := by simp
  have ht : (x.data.toList.takeWhile (· != 61)).length = k := tw_len _ _ (by omega)
    (fun j hj hjk e => h j (by omega) hjk (by show ((x.data[j]'_).toNat : Int) = 61; rw [Array.getElem_toList] at e; rw [e]; rfl))
    (by
      rcases he with he | ⟨hj, he⟩
      · exact .inl (by omega)
      · exact .inr ⟨by omega, by rw [Array.getElem_toList]; exact u8_of 61 he⟩)
  have hi := idx_one x.data.toList 61
  rw [ht, hl] at hi
  unfold eqName thE argE Lib.cut
  rw [hi]
  by_cases hlt : k < x.size
  · rw [if_pos hlt, if_pos (by omega)]
    refine ⟨bytes_eta ?_, by simp [hlt], fun _ => bytes_eta ?_⟩
    · rw [ext_take]; simp
    · rw [ext_drop]; simp
  · rw [if_neg hlt, if_neg (by omega)]
    refine ⟨bytes_eta ?_, by simp [hlt], fun h => absurd h hlt⟩
    rw [ext_take, List.take_of_length_le (by omega)]

theorem timeK_no {s : ByteArray} (a b : Int) : timeV s false a b = b := rfl
theorem timeK_yes {s : ByteArray} (a b : Int) (h : okQ s = true) : timeV s true a b = numQ s := by unfold timeV; rw [h]; rfl
theorem timeK_bad {s : ByteArray} (a b : Int) (h : okQ s = false) : timeV s true a b = a := by unfold timeV; rw [h]; rfl
theorem at_step {x : ByteArray} {k : Nat} (h : ∀ j (hj : j < x.size), j < k → ¬ (x[j].toNat : Int) = 61) (hk : k < x.size) (h1 : ¬ (x[k].toNat : Int) = 61) : ∀ j (hj : j < x.size), j < k + 1 → ¬ (x[j].toNat : Int) = 61 := by
  intro j hj hjk
  rcases Nat.lt_or_ge j k with hl | hg
  · exact h j hj hl
  · obtain rfl : j = k := by omega
    exact h1
def zeroD : D := ⟨false, false, false, false, false, false, 0, 0, 0, 0, 0, 0⟩

theorem infoD : (Tryd.prog.info? 23).map (·.size) = some 12 := by kernel_rfl
end Go.Proofs.YtafmedphgmacaaaDoor
