
/- A slice of pairs of strings, opened, with its bulk. Plain facts on readings. -/
import Derived.Test.YtjacgdjnocpodaaGreatDoorOpenU
namespace Go.Proofs.YtjacgdjnocpodaaGreatDoor
open Go.ChangeShapes Go.WideShapes Go.Deep Go.RowKit

section
variable {H : Type} {enc : TypeId × Value → H} {P : Program} {w : World} {base : Nat} {spare : Nat → Bool} {held : Bool}
/-- A slice of pairs of strings, opened, with its bulk. -/
theorem open_fldsU {t e S : TypeId} {A : Option Addr} {n c : Nat} {d : DataW H} {p : List MemPlace} (ht : P.underlying t = some (.slice e)) (he : TwoStr P e S)
    (h : DataW.Trod enc P w base spare held t (.slice A n c) d p) :
    ∃ L : List Fd, RdF w A n L ∧ n ≤ maxLen ∧ n ≤ c ∧ 3 * L.length + sumF L + 1 ≤ Rows.uptoBulk d := by
  obtain ⟨fuel, hf⟩ := h
  have hf' : DataW.trod enc P w base spare held fuel t [.slice A n c] = some (d, p) := by simpa [Value.cells] using hf
  rcases open_slice ht hf' with ⟨hcs, hx⟩ | ⟨a, len, cap, m, k, D, Pl, hcs, hb, hl, hm, hmm, hx, hi⟩
  · simp only [List.cons.injEq, Value.slice.injEq, and_true] at hcs
    obtain ⟨rfl, rfl, rfl⟩ := hcs
    exact ⟨[], Rd.none_ _ _ _, by simp [maxLen], Nat.le_refl _, by obtain rfl : d = .nil := congrArg Prod.fst hx; simp [sumF, Rows.uptoBulk]⟩
  · simp only [List.cons.injEq, Value.slice.injEq, and_true] at hcs
    obtain ⟨rfl, rfl, rfl⟩ := hcs
    obtain ⟨f0, f1, hu, t0, t1, o0, o1, hS, hc, hce⟩ := id he
    rw [hce] at hi
    have hnm : n ≤ m := by rw [hmm]; split <;> omega
    obtain ⟨F, hF⟩ := choose_lt (α := Fd) (n := m) (p := fun i f => w.cell? (a.add (i * 2)) = some (.string f.1) ∧ w.cell? (a.add (i * 2 + 1)) = some (.string f.2) ∧ D i = .agg [.lit (.string f.1.data.toList), .lit (.string f.2.data.toList)]) (fun i him => by
      obtain ⟨cs', h1, h2⟩ := hi i him
      obtain ⟨_, _, hat⟩ := World.cells?_some h1
      obtain ⟨u, v, rfl, hd, _, _⟩ := trod_twoStr he h2
      have c0 := hat 0 (by omega)
      have c1 := hat 1 (by omega)
      rw [Go.Deep.add_add] at c0 c1
      exact ⟨(u, v), by simpa using c0, by simpa using c1, hd⟩)
    have hlen : ((List.range n).map F).length = n := by simp
    refine ⟨(List.range n).map F, ⟨by rw [fldCells_len, hlen], fun hpos => ?_⟩, by omega, hl, ?_⟩
    · have hn0 : 0 < n := by rw [fldCells_len, hlen] at hpos; omega
      obtain ⟨b, o, sp⟩ := a
      have hsp : sp = none := by simpa [Addr.add] using World.cell?_spot (hF 0 (by omega)).1
      subst hsp
      refine ⟨b, o, rfl, fun j u hj => ?_⟩
      have hjl : j < n * 2 := by
        have := (List.getElem?_eq_some_iff.1 hj).1
        rw [fldCells_len, hlen] at this; exact this
      have hlt : j / 2 < ((List.range n).map F).length := by rw [hlen]; omega
      have hcells := hF (j / 2) (by omega)
      rw [add_plain, add_plain] at hcells
      have hFe : ((List.range n).map F)[j / 2] = F (j / 2) := by simp
      rcases Nat.mod_two_eq_zero_or_one j with h0 | h1
      · have e : j = j / 2 * 2 := by omega
        rw [e, fldCells_at0 _ _ hlt, hFe] at hj
        rw [e, ← hj]
        have e2 : j / 2 * 2 / 2 = j / 2 := by omega
        exact hcells.1
      · have e : j = j / 2 * 2 + 1 := by omega
        rw [e, fldCells_at1 _ _ hlt, hFe] at hj
        rw [e, ← hj]
        exact hcells.2.1
    · have hx1 : d = DataW.slice ((List.range n).map D) ((List.range (m - n)).map fun j => D (n + j)) := congrArg Prod.fst hx
      have hm2 : (List.range n).map D = ((List.range n).map F).map fun f => DataW.agg [.lit (.string f.1.data.toList), .lit (.string f.2.data.toList)] := by
        rw [List.map_map]
        exact List.map_congr_left fun i hi => (hF i (by have := List.mem_range.1 hi; omega)).2.2
      rw [hx1, hm2]
      simp only [Rows.uptoBulk]
      have := bulk_flds (H := H) ((List.range n).map F)
      omega
end
end Go.Proofs.YtjacgdjnocpodaaGreatDoor
