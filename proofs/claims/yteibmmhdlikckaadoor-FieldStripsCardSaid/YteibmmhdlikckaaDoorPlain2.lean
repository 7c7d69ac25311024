
/- Plain laws on lists of fields: Same is symmetric and reflexive; neighbors with different names may change places. No program in sight. -/
import Derived.Test.YteibmmhdlikckaaDoorSpec2
set_option linter.unusedSimpArgs false
set_option linter.unusedVariables false
namespace Go.Proofs.YteibmmhdlikckaaDoor

def sameTo (a b : List Fd) (k : Nat) : Bool := (a.take k).all fun x => decide (allS a x.1 = allS b x.1)
/-- Whether two lists of fields have the same values for each name, in order. -/
def sameS (a b : List Fd) : Bool := decide (a.length = b.length) && a.all fun x => decide (allS a x.1 = allS b x.1)

theorem mem_of_counts {α : Type} [BEq α] [LawfulBEq α] : ∀ (ka kb : List α), (∀ k ∈ ka, ka.count k ≤ kb.count k) → kb.length ≤ ka.length → ∀ y ∈ kb, y ∈ ka
  | [], kb, _, hl, y, hy => by
    have : kb = [] := List.eq_nil_of_length_eq_zero (by simpa using hl)
    subst this; simp at hy
  | k :: ka, kb, hc, hl, y, hy => by
    have hk : k ∈ kb := by
      have := hc k (List.mem_cons_self ..)
      rw [List.count_cons_self] at this
      exact List.count_pos_iff.1 (by omega)
    by_cases e : y = k
    · subst e; exact List.mem_cons_self ..
    · refine List.mem_cons_of_mem _ (mem_of_counts ka (kb.erase k) (fun k' hk' => ?_) ?_ y ((List.mem_erase_of_ne e).2 hy))
      · have := hc k' (List.mem_cons_of_mem _ hk')
        rw [List.count_cons] at this
        rw [List.count_erase]
        by_cases e2 : k == k'
        · simp [e2] at this ⊢; omega
        · simp [e2] at this ⊢; omega
      · rw [List.length_erase_of_mem hk]
        simp only [List.length_cons] at hl
        omega

theorem isN_iff {name : ByteArray} {f : Fd} : isN name f = true ↔ lowS f.1 = lowS name := eqS_iff
theorem allS_key {fs : List Fd} {x y : ByteArray} (h : lowS x = lowS y) : allS fs x = allS fs y := by
  unfold allS
  have : isN x = isN y := by funext f; unfold isN; rw [h]
  rw [this]
def keyS (f : Fd) : List UInt8 := (lowS f.1).data.toList
theorem keyS_iff {f g : Fd} : keyS f = keyS g ↔ lowS f.1 = lowS g.1 := ⟨bytes_ext, fun h => by rw [keyS, keyS, h]⟩
theorem allS_count (fs : List Fd) (x : Fd) : (allS fs x.1).length = (fs.map keyS).count (keyS x) := by
  unfold allS
  rw [List.length_map, List.count, List.countP_map, List.countP_eq_length_filter]
  congr 1
  apply List.filter_congr
  intro f _
  rw [Bool.eq_iff_iff, isN_iff, ← keyS_iff]
  simp

theorem sameS_iff {a b : List Fd} : sameS a b = true ↔ a.length = b.length ∧ ∀ x ∈ a, allS a x.1 = allS b x.1 := by
  simp [sameS, List.all_eq_true]
theorem sameS_half {a b : List Fd} (h : sameS a b = true) : sameS b a = true := by
  rw [sameS_iff] at *
  obtain ⟨hl, ha⟩ := h
  refine ⟨hl.symm, fun y hy => ?_⟩
  have hm := mem_of_counts (a.map keyS) (b.map keyS) (fun k hk => by
    obtain ⟨x, hx, rfl⟩ := List.mem_map.1 hk
    rw [← allS_count, ← allS_count, ha x hx]
    exact Nat.le_refl _) (by simp; omega) (keyS y) (List.mem_map.2 ⟨y, hy, rfl⟩)
  obtain ⟨x, hx, hk⟩ := List.mem_map.1 hm
  rw [allS_key (fs := b) (keyS_iff.1 hk.symm), allS_key (fs := a) (keyS_iff.1 hk.symm)]
  exact (ha x hx).symm
theorem sameS_symm (a b : List Fd) : sameS b a = sameS a b := by
  rw [Bool.eq_iff_iff]
  exact ⟨sameS_half, sameS_half⟩
theorem sameS_refl (a : List Fd) : sameS a a = true := by
  rw [sameS_iff]; exact ⟨rfl, fun _ _ => rfl⟩

theorem sameTo_step {a b : List Fd} {k : Nat} (h : k < a.length) (h1 : sameTo a b k = true) (h2 : allS a a[k].1 = allS b a[k].1) : sameTo a b (k + 1) = true := by
  unfold sameTo at *
  rw [take_step a k h, List.all_append, h1]; simp [h2]
theorem sameS_end {a b : List Fd} (hl : a.length = b.length) (h : sameTo a b a.length = true) : true = sameS a b := by
  unfold sameTo at h
  rw [List.take_of_length_le (Nat.le_refl _)] at h
  unfold sameS
  rw [h, decide_eq_true hl]; rfl
theorem sameS_no {a b : List Fd} {k : Nat} (h : k < a.length) (h2 : allS a a[k].1 ≠ allS b a[k].1) : false = sameS a b := by
  unfold sameS
  have : (a.all fun x => decide (allS a x.1 = allS b x.1)) = false := by
    rw [List.all_eq_false]
    exact ⟨a[k], List.getElem_mem h, by simpa using h2⟩
  rw [this]; simp
theorem sameS_len {a b : List Fd} (h : a.length ≠ b.length) : false = sameS a b := by
  unfold sameS; rw [decide_eq_false h]; rfl
end Go.Proofs.YteibmmhdlikckaaDoor
