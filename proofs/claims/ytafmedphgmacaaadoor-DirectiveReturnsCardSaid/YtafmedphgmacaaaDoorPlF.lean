
/- The reference's canonical text of directives: element by element it is the program's. No program in sight. -/
import Derived.Test.YtafmedphgmacaaaDoorFmt
namespace Go.Proofs.YtafmedphgmacaaaDoor

/-- Digits of a number, none for 0. -/
def preD (n : Nat) : List UInt8 := if n = 0 then [] else Lib.decDigits n
theorem dec_pre (n : Nat) : Lib.decDigits n = preD (n / 10) ++ [UInt8.ofNat (48 + n % 10)] := by
  unfold preD
  by_cases h : n < 10
  · rw [dec_small h, if_pos (by omega), Nat.mod_eq_of_lt h]; rfl
  · rw [dec_big h, if_neg (by omega)]
theorem preD_pos {n : Nat} (h : n ≠ 0) : preD n = Lib.decDigits n := if_neg h
/-- The elements of the reference's list: name, flag, time. -/
def rfL (d : D) : List (List UInt8 × Bool × Int) :=
  [(wNS, d.b0, -1), (wNC, d.b1, -1), (wPR, d.b2, -1), (wPU, d.b3, -1), (wMR, d.b4, -1), (wOC, d.b5, -1), (wMA, false, d.n0), (wSM, false, d.n1), (wWR, false, d.n2), (wIE, false, d.n3), (wMS, false, d.n4), (wMF, false, d.n5)]
def elR (p : List UInt8 × Bool × Int) : List ByteArray :=
  if p.2.1 = false ∧ p.2.2 < 0 then [] else if 0 ≤ p.2.2 ∧ (p.1 ≠ wMS ∨ p.2.2 < 2147483647) then [elV p.1 p.2.2] else [mkS p.1]
theorem elR_flag (w : List UInt8) (b : Bool) : elR (w, b, -1) = elB b w := by
  unfold elR elB
  cases b
  · rw [if_pos ⟨rfl, by show (-1 : Int) < 0; decide⟩]; rfl
  · rw [if_neg (fun h => by cases h.1), if_neg (fun h => absurd h.1 (by show ¬ (0 : Int) ≤ -1; decide))]; rfl
theorem elR_time (w : List UInt8) {n : Int} (h : n ≤ 2147483647) : elR (w, false, n) = elT w n := by
  unfold elR elT
  by_cases h0 : n < 0
  · rw [if_pos ⟨rfl, h0⟩, if_pos h0]
  · rw [if_neg (fun h => h0 h.2), if_neg h0]
    by_cases h1 : w = wMS ∧ n = 2147483647
    · rw [if_pos h1, if_neg]
      rintro ⟨_, h2 | h2⟩
      · exact h2 h1.1
      · have := h1.2; simp only at h2; omega
    · rw [if_neg h1, if_pos]
      refine ⟨by simp only; omega, ?_⟩
      by_cases hw : w = wMS
      · exact .inr (by simp only; have : n ≠ 2147483647 := fun e => h1 ⟨hw, e⟩; omega)
      · exact .inl hw
theorem nmT_top (n : Int) : nmT n ≤ 2147483647 := by unfold nmT; omega
theorem el_ref (d : D) : (rfL (nmD d)).flatMap elR = elD (nmD d) := by
  have h := nmT_top
  simp only [rfL, List.flatMap_cons, List.flatMap_nil, List.append_nil, elR_flag, nmD, elR_time _ (h _)]
  simp [elD, List.append_assoc]
theorem fmt_ref (d : D) : fmtD d = joinS ((rfL (nmD d)).flatMap elR) := by unfold fmtD; rw [el_ref]
theorem tailL_snoc (l : List ByteArray) (x : ByteArray) : tailL (l ++ [x]) = tailL l ++ 44 :: 32 :: x.data.toList := by
  unfold tailL; rw [List.flatMap_append, List.flatMap_cons, List.flatMap_nil, List.append_nil]
theorem join_one (x : ByteArray) : joinS [x] = x := by
  apply bytes_ext
  rw [join_list]
  simp [tailL]
theorem join_snoc {l : List ByteArray} (h : l ≠ []) (x : ByteArray) : joinS (l ++ [x]) = joinS l ++ ⟨#[44, 32]⟩ ++ x := by
  cases l with
  | nil => exact absurd rfl h
  | cons y l =>
    apply bytes_ext
    rw [List.cons_append, join_list, tailL_snoc, data_append, data_append, join_list]
    simp
/-- A text of elements that are not empty is not empty. -/
theorem join_full {l : List ByteArray} (h : l ≠ []) (hp : ∀ x ∈ l, plE x) : joinS l ≠ ⟨#[]⟩ := by
  cases l with
  | nil => exact absurd rfl h
  | cons y l =>
    intro e
    have h1 := join_list y l
    rw [e] at h1
    have h2 := (hp y (List.mem_cons_self ..)).1
    have h3 : y.data.toList = [] := (List.append_eq_nil_iff.1 h1.symm).1
    exact h2 h3
theorem pl_R {p : List UInt8 × Bool × Int} (hw : p.1 ≠ [] ∧ p.1.all okB = true) : ∀ x ∈ elR p, plE x := by
  intro x hx
  unfold elR at hx
  split at hx
  · cases hx
  · split at hx
    · rw [List.mem_singleton] at hx; subst hx
      have hl : (elV p.1 p.2.2).data.toList = p.1 ++ 61 :: Lib.decDigits p.2.2.toNat := by
        unfold elV; rw [data_append, data_append]; simp [mkS, decS]
      unfold plE
      rw [hl]
      refine ⟨by simp, ?_⟩
      rw [List.all_append, List.all_cons, hw.2, (dec_all _ _ (Nat.le_refl _)).2.1]
      decide
    · rw [List.mem_singleton] at hx; subst hx; exact ⟨by simpa [mkS] using hw.1, by simpa [mkS] using hw.2⟩
theorem rf_pl (d : D) : ∀ p ∈ rfL d, (p.1 ≠ [] ∧ p.1.all okB = true) ∧ p.1.length ≤ 30 := by
  intro p hp
  simp only [rfL, List.mem_cons, List.not_mem_nil, or_false] at hp
  rcases hp with rfl | rfl | rfl | rfl | rfl | rfl | rfl | rfl | rfl | rfl | rfl | rfl <;> (refine ⟨⟨?_, ?_⟩, ?_⟩ <;> dsimp only <;> decide)
theorem rf_top (d : D) : ∀ p ∈ rfL (nmD d), p.2.2 ≤ 2147483647 := by
  intro p hp
  have h := nmT_top
  simp only [rfL, List.mem_cons, List.not_mem_nil, or_false] at hp
  rcases hp with rfl | rfl | rfl | rfl | rfl | rfl | rfl | rfl | rfl | rfl | rfl | rfl <;> first | (show (-1 : Int) ≤ _; decide) | exact h _
theorem elR_len (p : List UInt8 × Bool × Int) : (elR p).length ≤ 1 := by unfold elR; split <;> (try split) <;> simp
end Go.Proofs.YtafmedphgmacaaaDoor
