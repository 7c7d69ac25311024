
/- Plain laws: what Set, Add and Remove do to the values of a name and of the others. No program in sight. -/
import Derived.Test.YtjacgdjnocpodaaGreatDoorPlain2
namespace Go.Proofs.YtjacgdjnocpodaaGreatDoor

theorem lowC_low (c : UInt8) : lowC (lowC c) = lowC c := by
  by_cases h : (65 ≤ c && c ≤ 90) = true
  · have h1 : lowC c = c + 32 := by rw [lowC, if_pos h]
    rw [h1, lowC, if_neg]
    simp only [Bool.and_eq_true, decide_eq_true_eq, UInt8.le_iff_toNat_le, UInt8.toNat_add, not_and, Nat.not_le] at *
    intro _
    have : (65 : UInt8).toNat = 65 := rfl
    have : (90 : UInt8).toNat = 90 := rfl
    have : (32 : UInt8).toNat = 32 := rfl
    omega
  · have h1 : lowC c = c := by rw [lowC, if_neg h]
    rw [h1, h1]
theorem lowS_low (s : ByteArray) : lowS (lowS s) = lowS s := by
  apply bytes_ext
  simp [lowS, lowL, lowC_low]
theorem isN_low (name v : ByteArray) (o : ByteArray) : isN o (lowS name, v) = decide (lowS name = lowS o) := by
  rw [Bool.eq_iff_iff, isN_iff, decide_eq_true_iff, lowS_low]
theorem allS_app (fs gs : List Fd) (o : ByteArray) : allS (fs ++ gs) o = allS fs o ++ allS gs o := by simp [allS]
theorem allS_one_same (name v : ByteArray) : allS [(lowS name, v)] name = [v] := by
  simp [allS, isN_low]
theorem allS_one_other {name o : ByteArray} (v : ByteArray) (h : lowS name ≠ lowS o) : allS [(lowS name, v)] o = [] := by
  simp [allS, isN_low, h]
theorem allS_cons (f : Fd) (fs : List Fd) (o : ByteArray) : allS (f :: fs) o = (if isN o f then [f.2] else []) ++ allS fs o := by
  unfold allS
  by_cases h : isN o f = true
  · simp [h]
  · simp [h]
theorem allS_rem_same (fs : List Fd) (name : ByteArray) : allS (remS fs name) name = [] := by
  unfold allS remS
  rw [List.filter_filter]
  have : (fs.filter fun a => isN name a && !isN name a) = [] := by
    rw [List.filter_eq_nil_iff]; intro a _; simp
  rw [this]; rfl
theorem allS_rem_other (fs : List Fd) {name o : ByteArray} (h : lowS name ≠ lowS o) : allS (remS fs name) o = allS fs o := by
  unfold allS remS
  rw [List.filter_filter]
  congr 1
  apply List.filter_congr
  intro f _
  by_cases h1 : isN o f = true
  · have h2 : isN name f = false := by
      rw [Bool.eq_false_iff]; intro h3
      exact h ((isN_iff.1 h3).symm.trans (isN_iff.1 h1))
    simp [h1, h2]
  · simp [h1]
theorem allS_set_same (name value : ByteArray) : ∀ fs : List Fd, allS (setS name value fs) name = [value]
  | [] => allS_one_same name value
  | f :: r => by
    unfold setS
    by_cases h : isN name f = true
    · rw [if_pos h, allS_cons, allS_rem_same, isN_low]; simp
    · rw [if_neg h, allS_cons, if_neg h, allS_set_same name value r]; rfl
theorem allS_set_other {name o : ByteArray} (value : ByteArray) (hne : lowS name ≠ lowS o) : ∀ fs : List Fd, allS (setS name value fs) o = allS fs o
  | [] => by rw [setS, allS_one_other value hne]; rfl
  | f :: r => by
    unfold setS
    by_cases h : isN name f = true
    · have h2 : isN o f = false := by
        rw [Bool.eq_false_iff]; intro h3
        exact hne ((isN_iff.1 h).symm.trans (isN_iff.1 h3))
      rw [if_pos h, allS_cons, allS_cons, allS_rem_other r hne, isN_low, h2]; simp [hne]
    · rw [if_neg h, allS_cons, allS_cons, allS_set_other value hne r]
theorem allS_add_same (fs : List Fd) (name value : ByteArray) : allS (fs ++ [(lowS name, value)]) name = allS fs name ++ [value] := by rw [allS_app, allS_one_same]
theorem allS_add_other (fs : List Fd) {name o : ByteArray} (value : ByteArray) (h : lowS name ≠ lowS o) : allS (fs ++ [(lowS name, value)]) o = allS fs o := by rw [allS_app, allS_one_other value h, List.append_nil]

theorem setS_bsz {B : Nat} {name value : ByteArray} (h1 : name.size ≤ B) (h2 : value.size ≤ B) : ∀ {fs : List Fd}, Bsz B fs → Bsz B (setS name value fs)
  | [], _ => by intro f hf; simp [setS] at hf; subst hf; exact ⟨by rw [lowS_size]; exact h1, h2⟩
  | g :: r, h => by
    have hr : Bsz B r := fun f hf => h f (List.mem_cons_of_mem _ hf)
    unfold setS
    split
    · intro f hf
      rcases List.mem_cons.1 hf with rfl | hf
      · exact ⟨by rw [lowS_size]; exact h1, h2⟩
      · exact hr f ((List.mem_filter.1 hf).1)
    · intro f hf
      rcases List.mem_cons.1 hf with rfl | hf
      · exact h _ (List.mem_cons_self ..)
      · exact setS_bsz h1 h2 hr f hf
theorem addS_bsz {B : Nat} {name value : ByteArray} (h1 : name.size ≤ B) (h2 : value.size ≤ B) {fs : List Fd} (h : Bsz B fs) : Bsz B (fs ++ [(lowS name, value)]) := by
  intro f hf
  rcases List.mem_append.1 hf with hf | hf
  · exact h f hf
  · simp at hf; subst hf; exact ⟨by rw [lowS_size]; exact h1, h2⟩
theorem remS_bsz {B : Nat} {name : ByteArray} {fs : List Fd} (h : Bsz B fs) : Bsz B (remS fs name) := fun f hf => h f ((List.mem_filter.1 hf).1)
end Go.Proofs.YtjacgdjnocpodaaGreatDoor
