
/- A struct of a bool and a string by value, opened. Plain facts on readings. -/
import Derived.Test.YtghaopeijncgaaaDoorOpenU
import Derived.Lib.SmallJoins
namespace Go.Proofs.YtghaopeijncgaaaDoor
open Go.Joins Go.ChangeShapes Go.WideShapes Go.RowKit Go.Deep

section
variable {H : Type} {enc : TypeId × Value → H} {P : Program} {w : World} {base : Nat} {spare : Nat → Bool} {held : Bool}
theorem open_tag {r : Reach} {b0 : Nat} {t : TypeId} {f0 f1 : Field} {v : Value} {d : DataW H} {p : List MemPlace} (hs : P.underlying t = some (.struct #[f0, f1])) (hone : oneCellFields P #[f0, f1] = true) (hC : P.cellsOf t = 2)
    (hb : P.underlying f0.type = some .bool) (hst : P.underlying f1.type = some .string) (hv : Value.okWide P w r b0 t v) (h : DataW.Trod enc P w base spare held t v d p) :
    ∃ (b : Bool) (s : ByteArray), v = .agg #[.bool b, .string s] ∧ s.size ≤ maxLen := by
  obtain ⟨v0, v1, y0, y1, n, rfl, _, _, t0, t1⟩ := open_agg2 hs hone hC hv h
  obtain ⟨b, hb1, _⟩ := DataW.trod_bool hb t0
  obtain ⟨s, hs1, _, hs2⟩ := DataW.trod_string hst t1
  simp only [List.cons.injEq, and_true] at hb1 hs1
  subst hb1; subst hs1
  exact ⟨b, s, rfl, hs2⟩
end
end Go.Proofs.YtghaopeijncgaaaDoor
