
/- Slices of small structs: their cells, element by element. Plain facts on readings. -/
import Derived.Test.YtafmedphgmacaaaDoorBlk
namespace Go.Proofs.YtafmedphgmacaaaDoor
open Go.RowKit

theorem flat_len {α : Type} {f : α → List Value} {k : Nat} (hk : ∀ a, (f a).length = k) : ∀ l : List α, (l.flatMap f).length = l.length * k
  | [] => by simp
  | x :: l => by rw [List.flatMap_cons, List.length_append, hk, flat_len hk l, List.length_cons, Nat.add_mul]; omega
theorem flat_at {α : Type} {f : α → List Value} {k : Nat} (hk : ∀ a, (f a).length = k) : ∀ (l : List α) (i : Nat) (h : i < l.length) (j : Nat), j < k → (l.flatMap f)[i * k + j]? = (f l[i])[j]?
  | x :: l, 0, _, j, hj => by
    rw [List.flatMap_cons, Nat.zero_mul, Nat.zero_add, List.getElem?_append_left (by rw [hk]; exact hj)]; rfl
  | x :: l, i + 1, h, j, hj => by
    rw [List.flatMap_cons, List.getElem?_append_right (by rw [hk, Nat.add_mul]; omega), hk, show (i + 1) * k + j - k = i * k + j by rw [Nat.add_mul]; omega, flat_at hk l i (by simpa using h) j hj]
    rfl
/-- The element's cells. -/
theorem Rd.atM {α : Type} {f : α → List Value} {k : Nat} (hk : ∀ a, (f a).length = k) {w : World} {A : Option Addr} {n : Nat} {l : List α} (h : Rd w k A n (l.flatMap f)) {i : Nat} (hi : i < l.length) (h0 : 0 < k) :
    ∃ b o, A = some ⟨b, o, none⟩ ∧ ∀ j u, j < k → (f l[i])[j]? = some u → w.cell? ⟨b, o + (i * k + j), none⟩ = some u := by
  obtain ⟨b, o, e, hc⟩ := h.2 (by rw [flat_len hk]; exact Nat.mul_pos (by omega) h0)
  exact ⟨b, o, e, fun j u hj hu => hc _ _ (by rw [flat_at hk l i hi j hj]; exact hu)⟩
theorem Rd.lenM {α : Type} {f : α → List Value} {k : Nat} (hk : ∀ a, (f a).length = k) {w : World} {A : Option Addr} {n : Nat} {l : List α} (h : Rd w k A n (l.flatMap f)) (h0 : 0 < k) : l.length = n := by
  have := h.1
  rw [flat_len hk] at this
  exact Nat.eq_of_mul_eq_mul_right h0 this
/-- A flag's cells; a time's. -/
def flC (p : Bool × List UInt8) : List Value := [.bool p.1, .string ⟨p.2.toArray⟩]
def tmC (p : Int × List UInt8) : List Value := [.int .i64 p.1, .string ⟨p.2.toArray⟩]
theorem flC_len (p : Bool × List UInt8) : (flC p).length = 2 := rfl
theorem tmC_len (p : Int × List UInt8) : (tmC p).length = 2 := rfl
theorem Rd.atFl {w : World} {A : Option Addr} {n : Nat} {l : List (Bool × List UInt8)} (h : Rd w 2 A n (l.flatMap flC)) {i : Nat} (hi : i < l.length) :
    ∃ b o, A = some ⟨b, o, none⟩ ∧ w.cell? ⟨b, o + i * 2, none⟩ = some (.bool l[i].1) ∧ w.cell? ⟨b, o + i * 2 + 1, none⟩ = some (.string ⟨l[i].2.toArray⟩) := by
  obtain ⟨b, o, e, hc⟩ := Rd.atM flC_len h hi (by decide)
  exact ⟨b, o, e, hc 0 _ (by decide) rfl, by rw [Nat.add_assoc]; exact hc 1 _ (by decide) rfl⟩
theorem Rd.atTm {w : World} {A : Option Addr} {n : Nat} {l : List (Int × List UInt8)} (h : Rd w 2 A n (l.flatMap tmC)) {i : Nat} (hi : i < l.length) :
    ∃ b o, A = some ⟨b, o, none⟩ ∧ w.cell? ⟨b, o + i * 2, none⟩ = some (.int .i64 l[i].1) ∧ w.cell? ⟨b, o + i * 2 + 1, none⟩ = some (.string ⟨l[i].2.toArray⟩) := by
  obtain ⟨b, o, e, hc⟩ := Rd.atM tmC_len h hi (by decide)
  exact ⟨b, o, e, hc 0 _ (by decide) rfl, by rw [Nat.add_assoc]; exact hc 1 _ (by decide) rfl⟩
/-- A whole block, read as a slice. -/
theorem Rd.of_blk {w : World} {b : Nat} {t : TypeId} {cs : Array Value} (h : Blk w b t cs) (k n : Nat) (hs : cs.size = n * k) : Rd w k (some ⟨b, 0, none⟩) n cs.toList :=
  ⟨by simp [hs], fun _ => ⟨b, 0, rfl, fun j u hu => by rw [Nat.zero_add, h.cell j, ← Array.getElem?_toList]; exact hu⟩⟩
end Go.Proofs.YtafmedphgmacaaaDoor
