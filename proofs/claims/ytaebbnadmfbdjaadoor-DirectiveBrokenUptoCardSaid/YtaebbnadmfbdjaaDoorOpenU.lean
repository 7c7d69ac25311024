
/- Arguments opened, with their bulk: a slice of strings, a slice of pairs of strings; the witness of a row that lists variables. Plain facts on readings. -/
import Derived.Test.YtaebbnadmfbdjaaDoorOpen
import Derived.Test.YtaebbnadmfbdjaaDoorRows
import Derived.SliceStrings
import Derived.Lay
import Derived.LaidOnce
import Derived.LaidMore
import Derived.Deep.DeepHandedRow
set_option linter.unusedSimpArgs false
set_option linter.unusedVariables false
namespace Go.Proofs.YtaebbnadmfbdjaaDoor
open Go.ChangeShapes Go.WideShapes Go.Deep Go.RowKit

theorem bulk_app {H : Type} (l r : List (DataW H)) : Rows.uptoBulkAll (l ++ r) = Rows.uptoBulkAll l + Rows.uptoBulkAll r := by
  induction l with
  | nil => simp [Rows.uptoBulkAll]
  | cons x l ih => simp only [List.cons_append, Rows.uptoBulkAll, ih]; omega
theorem bulk_strs {H : Type} (l : List ByteArray) : Rows.uptoBulkAll (H := H) (l.map fun s => DataW.lit (.string s.data.toList)) = l.length + totS l := by
  induction l with
  | nil => rfl
  | cons x l ih =>
    simp only [List.map_cons, Rows.uptoBulkAll, ih, Rows.uptoBulk, List.length_cons, totS, List.sum_cons, Array.length_toList]
    show x.size + 1 + _ = _
    omega
theorem bulk_flds {H : Type} (l : List Fd) : Rows.uptoBulkAll (H := H) (l.map fun f => DataW.agg [.lit (.string f.1.data.toList), .lit (.string f.2.data.toList)]) = 3 * l.length + sumF l := by
  induction l with
  | nil => rfl
  | cons x l ih =>
    simp only [List.map_cons, Rows.uptoBulkAll, ih, Rows.uptoBulk, List.length_cons, sumF, List.sum_cons, Array.length_toList]
    show (x.1.size + 1) + ((x.2.size + 1) + 0) + 1 + _ = _
    omega
/-- The bound of an Upto statement. -/
theorem bulk_of {H : Type} {l : List (DataW H)} (hk : Rows.uptoSmall H l = true) : Rows.uptoBulkAll l ≤ 1048576 := of_decide_eq_true hk

section
variable {H : Type} {enc : TypeId × Value → H} {P : Program} {w : World} {base : Nat} {spare : Nat → Bool} {held : Bool}
/-- A slice of strings, opened. -/
theorem open_strsL {t e : TypeId} {A : Option Addr} {n c : Nat} {d : DataW H} {p : List MemPlace} (ht : P.underlying t = some (.slice e)) (he : P.underlying e = some .string) (hce : P.cellsOf e = 1)
    (h : DataW.Trod enc P w base spare held t (.slice A n c) d p) :
    ∃ L : List ByteArray, RdS w A n L ∧ n ≤ maxLen ∧ n ≤ c ∧ L.length + totS L + 1 ≤ Rows.uptoBulk d := by
  obtain ⟨fuel, hf⟩ := h
  have hf' : DataW.trod enc P w base spare held fuel t [.slice A n c] = some (d, p) := by simpa [Value.cells] using hf
  rcases open_strings ht he hce hf' with ⟨hcs, hx⟩ | ⟨a, len, cap, ss, hcs, hb, hl, hm, hlen, hx, hi⟩
  · simp only [List.cons.injEq, Value.slice.injEq, and_true] at hcs
    obtain ⟨rfl, rfl, rfl⟩ := hcs
    obtain rfl : d = .nil := congrArg Prod.fst hx
    exact ⟨[], Rd.none_ _ _ _, by simp [maxLen], Nat.le_refl _, by simp [totS, Rows.uptoBulk]⟩
  · simp only [List.cons.injEq, Value.slice.injEq, and_true] at hcs
    obtain ⟨rfl, rfl, rfl⟩ := hcs
    have hnl : n ≤ ss.length := by rw [hlen]; split <;> omega
    have htl : (ss.take n).length = n := by rw [List.length_take]; omega
    refine ⟨ss.take n, ⟨by simp; omega, fun hpos => ?_⟩, by omega, hl, ?_⟩
    · obtain ⟨b, o, sp⟩ := a
      have h0 : 0 < ss.length := by
        rw [List.length_map, htl] at hpos; omega
      have hc0 := hi.1 0 h0
      have hsp : sp = none := by simpa [Addr.add] using World.cell?_spot hc0
      subst hsp
      refine ⟨b, o, rfl, fun j u hu => ?_⟩
      rw [List.getElem?_map, List.getElem?_take] at hu
      split at hu
      · rename_i hjn
        obtain ⟨s, hs, rfl⟩ := Option.map_eq_some_iff.1 hu
        obtain ⟨hjl, he⟩ := List.getElem?_eq_some_iff.1 hs
        have := hi.1 j hjl
        rw [add_plain, List.getD_eq_getElem?_getD, hs] at this
        exact this
      · simp at hu
    · obtain rfl : d = _ := congrArg Prod.fst hx
      simp only [Rows.uptoBulk]
      have := bulk_strs (H := H) (ss.take n)
      unfold strs
      omega
end

/-- THERE IS AN INPUT THAT FITS: a row that lists variables. -/
theorem witU {H : Type} {enc : TypeId × Value → H} {C : Checked} {os : Os} {f : FuncId} {fn : Func} {s : OpenSpec} {conds : List PathCond} {apart : Bool} {laid : List (String × DataW Unit)} (args : Array Value)
    (hv : ((World.laidAll C.prog os laid).forCall (fun _ _ => 0) ⟨#[], args, []⟩).variablesZipB C.prog = true)
    (hr : (((World.laidAll C.prog os laid).forCall (fun _ _ => 0) ⟨#[], args, []⟩).heap.toList.drop C.prog.globals.size).take ((begin C.prog (fun _ _ => 0) default).world.heap.size - C.prog.globals.size) =
      (begin C.prog (fun _ _ => 0) default).world.heap.toList.drop C.prog.globals.size)
    (hok : Input.okWideB C.prog ((World.laidAll C.prog os laid).forCall (fun _ _ => 0) ⟨#[], args, []⟩) f ⟨#[], args, []⟩ = true)
    (hrow : s.preRow enc C.prog fn conds apart laid ((World.laidAll C.prog os laid).forCall (fun _ _ => 0) ⟨#[], args, []⟩).memory args) :
    ∃ (w : World) (tape : Tape) (i : Input), w.os = os ∧ (w.forCall tape i).Shaped C.prog ∧ i.vars = [] ∧ Input.okWide C.prog (w.forCall tape i) .any w.heap.size f i ∧
      s.preRow enc C.prog fn conds apart laid (w.forCall tape i).memory i.args ∧ ({} : Assume).holds C.prog (lone (Frame.enter C.prog f i.args .normal) [] (w.forCall tape i)) :=
  ⟨World.laidAll C.prog os laid, fun _ _ => 0, ⟨#[], args, []⟩, World.laidAll_os _ _ _, World.shaped_of_ZipB hv hr, (Input.okWide_of_okWideB (base := 0) hok).1, (Input.okWide_of_okWideB hok).2, hrow, by
    simp only [Assume.holds]
    exact ⟨by simp, by simp, fun _ => Modest.zero, by simp, by simp⟩⟩
end Go.Proofs.YtaebbnadmfbdjaaDoor
