
/- Struct arguments opened: directives. Plain facts on readings. -/
import Derived.Test.YtafmedphgmacaaaDoorOpenU
import Derived.Lib.SmallJoins
namespace Go.Proofs.YtafmedphgmacaaaDoor
open Go.ChangeShapes Go.WideShapes Go.RowKit Go.Deep Go.Joins
section
variable {H : Type} {enc : TypeId × Value → H} {w : World} {base : Nat} {spare : Nat → Bool} {held : Bool}
theorem c_slice {P : Program} {t e : TypeId} {fuel : Nat} {cs : List Value} {x : DataW H × List MemPlace} (ht : P.underlying t = some (.slice e)) (h : DataW.trod enc P w base spare held fuel t cs = some x) :
    ∃ A n c, cs = [.slice A n c] ∧ DataW.Trod enc P w base spare held t (.slice A n c) x.1 x.2 := by
  rcases open_slice ht h with ⟨rfl, hx⟩ | ⟨a, len, cap, m, k, D, Pl, rfl, hb, hl, hm, hmm, hx, hi⟩
  · exact ⟨_, _, _, rfl, fuel, by simpa [Value.cells] using h⟩
  · exact ⟨_, _, _, rfl, fuel, by simpa [Value.cells] using h⟩
theorem open_agg {P : Program} {r : Reach} {b0 : Nat} {t : TypeId} {fs : Array Field} {v : Value} {d : DataW H} {p : List MemPlace} (hs : P.underlying t = some (.struct fs)) (hv : Value.okWide P w r b0 t v) (h : DataW.Trod enc P w base spare held t v d p) :
    ∃ (cs : Array Value) (fuel : Nat), v = .agg cs ∧ DataW.trod enc P w base spare held fuel t cs.toList = some (d, p) := by
  obtain ⟨cs, rfl, hsz⟩ := okWide_struct hs hv
  obtain ⟨fuel, hf⟩ := h
  exact ⟨cs, fuel, rfl, by simpa [Value.cells] using hf⟩
set_option maxRecDepth 100000 in
theorem c_Dr {fuel : Nat} {cs : List Value} {x : DataW H × List MemPlace} (h : DataW.trod enc Tryd.prog w base spare held fuel 23 cs = some x) :
    ∃ (x_0 : Bool) (x_1 : Bool) (x_2 : Bool) (x_3 : Bool) (x_4 : Bool) (x_5 : Bool) (x_6 : Int) (x_7 : Int) (x_8 : Int) (x_9 : Int) (x_10 : Int) (x_11 : Int), cs = [.bool x_0, .bool x_1, .bool x_2, .bool x_3, .bool x_4, .bool x_5, .int .i64 x_6, .int .i64 x_7, .int .i64 x_8, .int .i64 x_9, .int .i64 x_10, .int .i64 x_11] ∧ x.1 = .agg [.lit (.bool x_0), .lit (.bool x_1), .lit (.bool x_2), .lit (.bool x_3), .lit (.bool x_4), .lit (.bool x_5), .lit (.int .i64 x_6), .lit (.int .i64 x_7), .lit (.int .i64 x_8), .lit (.int .i64 x_9), .lit (.int .i64 x_10), .lit (.int .i64 x_11)] ∧ ((Lit.int .i64 x_6).wf = true ∧ (Lit.int .i64 x_7).wf = true ∧ (Lit.int .i64 x_8).wf = true ∧ (Lit.int .i64 x_9).wf = true ∧ (Lit.int .i64 x_10).wf = true ∧ (Lit.int .i64 x_11).wf = true) := by
  obtain ⟨xs, n, _, rfl, hl, hlen, hf⟩ := DataW.trod_struct Tryd.underlying23 h
  rw [show Tryd.prog.cellsOf 23 = 12 from by kernel_rfl] at hl
  match cs, hl with
  | [c0, c1, c2, c3, c4, c5, c6, c7, c8, c9, c10, c11], _ =>
  have hlen : xs.length = 12 := hlen
  match xs, hlen with
  | [y0, y1, y2, y3, y4, y5, y6, y7, y8, y9, y10, y11], _ =>
    have g0 : DataW.trod enc Tryd.prog w base spare held n 4 (([c0, c1, c2, c3, c4, c5, c6, c7, c8, c9, c10, c11].drop 0).take (Tryd.prog.cellsOf 4)) = [y0, y1, y2, y3, y4, y5, y6, y7, y8, y9, y10, y11][0]? := hf 0 _ rfl
    have g1 : DataW.trod enc Tryd.prog w base spare held n 4 (([c0, c1, c2, c3, c4, c5, c6, c7, c8, c9, c10, c11].drop 1).take (Tryd.prog.cellsOf 4)) = [y0, y1, y2, y3, y4, y5, y6, y7, y8, y9, y10, y11][1]? := hf 1 _ rfl
    have g2 : DataW.trod enc Tryd.prog w base spare held n 4 (([c0, c1, c2, c3, c4, c5, c6, c7, c8, c9, c10, c11].drop 2).take (Tryd.prog.cellsOf 4)) = [y0, y1, y2, y3, y4, y5, y6, y7, y8, y9, y10, y11][2]? := hf 2 _ rfl
    have g3 : DataW.trod enc Tryd.prog w base spare held n 4 (([c0, c1, c2, c3, c4, c5, c6, c7, c8, c9, c10, c11].drop 3).take (Tryd.prog.cellsOf 4)) = [y0, y1, y2, y3, y4, y5, y6, y7, y8, y9, y10, y11][3]? := hf 3 _ rfl
    have g4 : DataW.trod enc Tryd.prog w base spare held n 4 (([c0, c1, c2, c3, c4, c5, c6, c7, c8, c9, c10, c11].drop 4).take (Tryd.prog.cellsOf 4)) = [y0, y1, y2, y3, y4, y5, y6, y7, y8, y9, y10, y11][4]? := hf 4 _ rfl
    have g5 : DataW.trod enc Tryd.prog w base spare held n 4 (([c0, c1, c2, c3, c4, c5, c6, c7, c8, c9, c10, c11].drop 5).take (Tryd.prog.cellsOf 4)) = [y0, y1, y2, y3, y4, y5, y6, y7, y8, y9, y10, y11][5]? := hf 5 _ rfl
    have g6 : DataW.trod enc Tryd.prog w base spare held n 3 (([c0, c1, c2, c3, c4, c5, c6, c7, c8, c9, c10, c11].drop 6).take (Tryd.prog.cellsOf 3)) = [y0, y1, y2, y3, y4, y5, y6, y7, y8, y9, y10, y11][6]? := hf 6 _ rfl
    have g7 : DataW.trod enc Tryd.prog w base spare held n 3 (([c0, c1, c2, c3, c4, c5, c6, c7, c8, c9, c10, c11].drop 7).take (Tryd.prog.cellsOf 3)) = [y0, y1, y2, y3, y4, y5, y6, y7, y8, y9, y10, y11][7]? := hf 7 _ rfl
    have g8 : DataW.trod enc Tryd.prog w base spare held n 3 (([c0, c1, c2, c3, c4, c5, c6, c7, c8, c9, c10, c11].drop 8).take (Tryd.prog.cellsOf 3)) = [y0, y1, y2, y3, y4, y5, y6, y7, y8, y9, y10, y11][8]? := hf 8 _ rfl
    have g9 : DataW.trod enc Tryd.prog w base spare held n 3 (([c0, c1, c2, c3, c4, c5, c6, c7, c8, c9, c10, c11].drop 9).take (Tryd.prog.cellsOf 3)) = [y0, y1, y2, y3, y4, y5, y6, y7, y8, y9, y10, y11][9]? := hf 9 _ rfl
    have g10 : DataW.trod enc Tryd.prog w base spare held n 3 (([c0, c1, c2, c3, c4, c5, c6, c7, c8, c9, c10, c11].drop 10).take (Tryd.prog.cellsOf 3)) = [y0, y1, y2, y3, y4, y5, y6, y7, y8, y9, y10, y11][10]? := hf 10 _ rfl
    have g11 : DataW.trod enc Tryd.prog w base spare held n 3 (([c0, c1, c2, c3, c4, c5, c6, c7, c8, c9, c10, c11].drop 11).take (Tryd.prog.cellsOf 3)) = [y0, y1, y2, y3, y4, y5, y6, y7, y8, y9, y10, y11][11]? := hf 11 _ rfl
    rw [show Tryd.prog.cellsOf 4 = 1 from by kernel_rfl] at g0
    simp only [List.drop_succ_cons, List.drop_zero, List.take_succ_cons, List.take_zero, List.getElem?_cons_succ, List.getElem?_cons_zero] at g0
    obtain ⟨x_0, e0, d0⟩ := DataW.trod_bool Tryd.underlying4 g0
    simp only [List.cons.injEq, and_true] at e0
    subst e0
    rw [show Tryd.prog.cellsOf 4 = 1 from by kernel_rfl] at g1
    simp only [List.drop_succ_cons, List.drop_zero, List.take_succ_cons, List.take_zero, List.getElem?_cons_succ, List.getElem?_cons_zero] at g1
    obtain ⟨x_1, e1, d1⟩ := DataW.trod_bool Tryd.underlying4 g1
    simp only [List.cons.injEq, and_true] at e1
    subst e1
    rw [show Tryd.prog.cellsOf 4 = 1 from by kernel_rfl] at g2
    simp only [List.drop_succ_cons, List.drop_zero, List.take_succ_cons, List.take_zero, List.getElem?_cons_succ, List.getElem?_cons_zero] at g2
    obtain ⟨x_2, e2, d2⟩ := DataW.trod_bool Tryd.underlying4 g2
    simp only [List.cons.injEq, and_true] at e2
    subst e2
    rw [show Tryd.prog.cellsOf 4 = 1 from by kernel_rfl] at g3
    simp only [List.drop_succ_cons, List.drop_zero, List.take_succ_cons, List.take_zero, List.getElem?_cons_succ, List.getElem?_cons_zero] at g3
    obtain ⟨x_3, e3, d3⟩ := DataW.trod_bool Tryd.underlying4 g3
    simp only [List.cons.injEq, and_true] at e3
    subst e3
    rw [show Tryd.prog.cellsOf 4 = 1 from by kernel_rfl] at g4
    simp only [List.drop_succ_cons, List.drop_zero, List.take_succ_cons, List.take_zero, List.getElem?_cons_succ, List.getElem?_cons_zero] at g4
    obtain ⟨x_4, e4, d4⟩ := DataW.trod_bool Tryd.underlying4 g4
    simp only [List.cons.injEq, and_true] at e4
    subst e4
    rw [show Tryd.prog.cellsOf 4 = 1 from by kernel_rfl] at g5
    simp only [List.drop_succ_cons, List.drop_zero, List.take_succ_cons, List.take_zero, List.getElem?_cons_succ, List.getElem?_cons_zero] at g5
    obtain ⟨x_5, e5, d5⟩ := DataW.trod_bool Tryd.underlying4 g5
    simp only [List.cons.injEq, and_true] at e5
    subst e5
    rw [show Tryd.prog.cellsOf 3 = 1 from by kernel_rfl] at g6
    simp only [List.drop_succ_cons, List.drop_zero, List.take_succ_cons, List.take_zero, List.getElem?_cons_succ, List.getElem?_cons_zero] at g6
    obtain ⟨x_6, e6, d6, f6_0⟩ := DataW.trod_int Tryd.underlying3 g6
    simp only [List.cons.injEq, and_true] at e6
    subst e6
    rw [show Tryd.prog.cellsOf 3 = 1 from by kernel_rfl] at g7
    simp only [List.drop_succ_cons, List.drop_zero, List.take_succ_cons, List.take_zero, List.getElem?_cons_succ, List.getElem?_cons_zero] at g7
    obtain ⟨x_7, e7, d7, f7_0⟩ := DataW.trod_int Tryd.underlying3 g7
    simp only [List.cons.injEq, and_true] at e7
    subst e7
    rw [show Tryd.prog.cellsOf 3 = 1 from by kernel_rfl] at g8
    simp only [List.drop_succ_cons, List.drop_zero, List.take_succ_cons, List.take_zero, List.getElem?_cons_succ, List.getElem?_cons_zero] at g8
    obtain ⟨x_8, e8, d8, f8_0⟩ := DataW.trod_int Tryd.underlying3 g8
    simp only [List.cons.injEq, and_true] at e8
    subst e8
    rw [show Tryd.prog.cellsOf 3 = 1 from by kernel_rfl] at g9
    simp only [List.drop_succ_cons, List.drop_zero, List.take_succ_cons, List.take_zero, List.getElem?_cons_succ, List.getElem?_cons_zero] at g9
    obtain ⟨x_9, e9, d9, f9_0⟩ := DataW.trod_int Tryd.underlying3 g9
    simp only [List.cons.injEq, and_true] at e9
    subst e9
    rw [show Tryd.prog.cellsOf 3 = 1 from by kernel_rfl] at g10
    simp only [List.drop_succ_cons, List.drop_zero, List.take_succ_cons, List.take_zero, List.getElem?_cons_succ, List.getElem?_cons_zero] at g10
    obtain ⟨x_10, e10, d10, f10_0⟩ := DataW.trod_int Tryd.underlying3 g10
    simp only [List.cons.injEq, and_true] at e10
    subst e10
    rw [show Tryd.prog.cellsOf 3 = 1 from by kernel_rfl] at g11
    simp only [List.drop_succ_cons, List.drop_zero, List.take_succ_cons, List.take_zero, List.getElem?_cons_succ, List.getElem?_cons_zero] at g11
    obtain ⟨x_11, e11, d11, f11_0⟩ := DataW.trod_int Tryd.underlying3 g11
    simp only [List.cons.injEq, and_true] at e11
    subst e11
    refine ⟨x_0, x_1, x_2, x_3, x_4, x_5, x_6, x_7, x_8, x_9, x_10, x_11, rfl, ?_, f6_0, f7_0, f8_0, f9_0, f10_0, f11_0⟩
    simp only [List.map_cons, List.map_nil, show y0.1 = _ from congrArg Prod.fst d0, show y1.1 = _ from congrArg Prod.fst d1, show y2.1 = _ from congrArg Prod.fst d2, show y3.1 = _ from congrArg Prod.fst d3, show y4.1 = _ from congrArg Prod.fst d4, show y5.1 = _ from congrArg Prod.fst d5, show y6.1 = _ from congrArg Prod.fst d6, show y7.1 = _ from congrArg Prod.fst d7, show y8.1 = _ from congrArg Prod.fst d8, show y9.1 = _ from congrArg Prod.fst d9, show y10.1 = _ from congrArg Prod.fst d10, show y11.1 = _ from congrArg Prod.fst d11]
set_option maxRecDepth 100000 in
theorem open_Dr {r : Reach} {b0 : Nat} {v : Value} {d : DataW H} {p : List MemPlace} (hv : Value.okWide Tryd.prog w r b0 23 v) (h : DataW.Trod enc Tryd.prog w base spare held 23 v d p) :
    ∃ (x_0 : Bool) (x_1 : Bool) (x_2 : Bool) (x_3 : Bool) (x_4 : Bool) (x_5 : Bool) (x_6 : Int) (x_7 : Int) (x_8 : Int) (x_9 : Int) (x_10 : Int) (x_11 : Int), v = .agg #[.bool x_0, .bool x_1, .bool x_2, .bool x_3, .bool x_4, .bool x_5, .int .i64 x_6, .int .i64 x_7, .int .i64 x_8, .int .i64 x_9, .int .i64 x_10, .int .i64 x_11] ∧ d = .agg [.lit (.bool x_0), .lit (.bool x_1), .lit (.bool x_2), .lit (.bool x_3), .lit (.bool x_4), .lit (.bool x_5), .lit (.int .i64 x_6), .lit (.int .i64 x_7), .lit (.int .i64 x_8), .lit (.int .i64 x_9), .lit (.int .i64 x_10), .lit (.int .i64 x_11)] ∧ ((Lit.int .i64 x_6).wf = true ∧ (Lit.int .i64 x_7).wf = true ∧ (Lit.int .i64 x_8).wf = true ∧ (Lit.int .i64 x_9).wf = true ∧ (Lit.int .i64 x_10).wf = true ∧ (Lit.int .i64 x_11).wf = true) := by
  obtain ⟨⟨cs⟩, fuel, rfl, hf⟩ := open_agg Tryd.underlying23 hv h
  obtain ⟨x_0, x_1, x_2, x_3, x_4, x_5, x_6, x_7, x_8, x_9, x_10, x_11, hcs, hd, hfa⟩ := c_Dr hf
  exact ⟨x_0, x_1, x_2, x_3, x_4, x_5, x_6, x_7, x_8, x_9, x_10, x_11, by rw [show cs = _ from hcs], hd, hfa⟩
end
end Go.Proofs.YtafmedphgmacaaaDoor
