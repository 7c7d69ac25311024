
/- The table of powers of ten that strconv reads: out of a row's condition, and kept by what leaves memory as it was. No condition. -/
import Derived.Test.YtafmedphgmacaaaDoorLaidG
import Derived.Test.YtafmedphgmacaaaDoorShelf
import Derived.Lib.LaidTab
namespace Go.Proofs.YtafmedphgmacaaaDoor
open Go.RowKit Go.ChangeShapes

/-- The table of powers of ten stands. -/
abbrev GlP (w : World) : Prop := Lib.TabIs Tryd.prog w "internal/strconv.uint64pow10" .u64 Lib.pow10Tab
set_option maxRecDepth 100000 in
theorem glP_of {W : World} {laid : List (String × DataW Unit)} (hp : (laid.all fun x => x.2.handleName?.isNone) = true) (h : laidMetH Tryd.prog laid W)
    (h1 : ("internal/strconv.uint64pow10", Rows.laid_internal_strconv_uint64pow10) ∈ laid) : GlP W := by
  rw [MakeChecks.laidMetH_plain _ _ _ hp] at h
  obtain ⟨ps, hv, _⟩ := h
  obtain ⟨g, t, cs, fuel, p, e1, e2, e3, e4⟩ := laid_in hv _ h1
  have g0 : Tryd.prog.globalNamed "internal/strconv.uint64pow10" = some 0 := by kernel_rfl
  obtain rfl := Option.some.inj (g0.symm.trans e1)
  have t0 : (Tryd.prog.globals[0]?).map (·.type) = some 106 := by kernel_rfl
  obtain rfl := Option.some.inj (t0.symm.trans e2)
  have hc := Lib.cells_of_tab (k := .u64) (zs := Lib.pow10Tab) Tryd.underlying106 Tryd.underlying88 (by kernel_rfl) (by kernel_rfl) e4
  unfold GlP Lib.TabIs
  rw [e3]
  congr 1
  rw [← hc]
theorem GlP.ext {w w' : World} (h : GlP w) (hb : Ext w w') : GlP w' := by
  unfold GlP Lib.TabIs World.var? at *
  rw [show Tryd.prog.globalNamed "internal/strconv.uint64pow10" = some 0 by kernel_rfl] at *
  simp only [Option.bind_some] at *
  rcases Nat.lt_or_ge 0 w.heap.size with h' | h'
  · rw [hb.below.block _ h']; exact h
  · rw [Array.getElem?_eq_none h'] at h; cases h
/-- strconv.Itoa of a number that is not negative: its decimal digits. -/
theorem std_Itoa (n : Int) (h0 : 0 ≤ n) (h1 : n ≤ 9223372036854775807) (w : World) (hp : GlP w) :
    Calls Tryd.prog 20 #[.int .i64 n] w fun e w' => e = .returned (.string ⟨(Lib.decDigits n.toNat).toArray⟩) ∧ Ext w w' := by
  refine (Tryd.strconv_Itoa n (by omega) h1 w hp).mono ?_
  rintro e w' ⟨rfl, k, os, rfl⟩
  refine ⟨by rw [show Lib.itoa n = Lib.decDigits n.toNat from if_neg (by omega)], ?_⟩
  refine ⟨rfl, rfl, rfl, by show w.heap.size ≤ (w.heap ++ os).size; rw [Array.size_append]; omega, fun j hj => ?_⟩
  show (w.heap ++ os)[j]? = w.heap[j]?
  rw [Array.getElem?_append_left hj]
end Go.Proofs.YtafmedphgmacaaaDoor
