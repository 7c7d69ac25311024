
/- Struct arguments opened: a conditional request. Plain facts on readings. -/
import Derived.Test.YtghaopeijncgaaaDoorOpenU
import Derived.Lib.SmallJoins
namespace Go.Proofs.YtghaopeijncgaaaDoor
open Go.ChangeShapes Go.WideShapes Go.RowKit Go.Deep Go.Joins
section
variable {H : Type} {enc : TypeId × Value → H} {w : World} {base : Nat} {spare : Nat → Bool} {held : Bool}
theorem c_slice {P : Program} {t e : TypeId} {fuel : Nat} {cs : List Value} {x : DataW H × List MemPlace} (ht : P.underlying t = some (.slice e)) (h : DataW.trod enc P w base spare held fuel t cs = some x) :
    ∃ A n c, cs = [.slice A n c] ∧ DataW.Trod enc P w base spare held t (.slice A n c) x.1 x.2 := by
  rcases open_slice ht h with ⟨rfl, hx⟩ | ⟨a, len, cap, m, k, D, Pl, rfl, hb, hl, hm, hmm, hx, hi⟩
  · exact ⟨_, _, _, rfl, fuel, by simpa [Value.cells] using h⟩
  · exact ⟨_, _, _, rfl, fuel, by simpa [Value.cells] using h⟩
theorem open_agg {P : Program} {r : Reach} {b0 : Nat} {t : TypeId} {fs : Array Field} {v : Value} {d : DataW H} {p : List MemPlace} (hs : P.underlying t = some (.struct fs)) (hv : Value.okWide P w r b0 t v) (h : DataW.Trod enc P w base spare held t v d p) :
    ∃ (cs : Array Value) (fuel : Nat), v = .agg cs ∧ DataW.trod enc P w base spare held fuel t cs.toList = some (d, p) := by
  obtain ⟨cs, rfl, hsz⟩ := okWide_struct hs hv
  obtain ⟨fuel, hf⟩ := h
  exact ⟨cs, fuel, rfl, by simpa [Value.cells] using hf⟩
set_option maxRecDepth 100000 in
theorem c_Tg {fuel : Nat} {cs : List Value} {x : DataW H × List MemPlace} (h : DataW.trod enc Tryd.prog w base spare held fuel 29 cs = some x) :
    ∃ (x_0 : Bool) (x_1 : ByteArray), cs = [.bool x_0, .string x_1] ∧ x.1 = .agg [.lit (.bool x_0), .lit (.string x_1.data.toList)] ∧ (x_1.size ≤ maxLen) := by
  obtain ⟨xs, n, _, rfl, hl, hlen, hf⟩ := DataW.trod_struct Tryd.underlying29 h
  rw [show Tryd.prog.cellsOf 29 = 2 from by kernel_rfl] at hl
  match cs, hl with
  | [c0, c1], _ =>
  have hlen : xs.length = 2 := hlen
  match xs, hlen with
  | [y0, y1], _ =>
    have g0 : DataW.trod enc Tryd.prog w base spare held n 4 (([c0, c1].drop 0).take (Tryd.prog.cellsOf 4)) = [y0, y1][0]? := hf 0 _ rfl
    have g1 : DataW.trod enc Tryd.prog w base spare held n 9 (([c0, c1].drop 1).take (Tryd.prog.cellsOf 9)) = [y0, y1][1]? := hf 1 _ rfl
    rw [show Tryd.prog.cellsOf 4 = 1 from by kernel_rfl] at g0
    simp only [List.drop_succ_cons, List.drop_zero, List.take_succ_cons, List.take_zero, List.getElem?_cons_succ, List.getElem?_cons_zero] at g0
    obtain ⟨x_0, e0, d0⟩ := DataW.trod_bool Tryd.underlying4 g0
    simp only [List.cons.injEq, and_true] at e0
    subst e0
    rw [show Tryd.prog.cellsOf 9 = 1 from by kernel_rfl] at g1
    simp only [List.drop_succ_cons, List.drop_zero, List.take_succ_cons, List.take_zero, List.getElem?_cons_succ, List.getElem?_cons_zero] at g1
    obtain ⟨x_1, e1, d1, f1_0⟩ := DataW.trod_string Tryd.underlying9 g1
    simp only [List.cons.injEq, and_true] at e1
    subst e1
    refine ⟨x_0, x_1, rfl, ?_, f1_0⟩
    simp only [List.map_cons, List.map_nil, show y0.1 = _ from congrArg Prod.fst d0, show y1.1 = _ from congrArg Prod.fst d1]
set_option maxRecDepth 100000 in
theorem c_St10 {fuel : Nat} {cs : List Value} {x : DataW H × List MemPlace} (h : DataW.trod enc Tryd.prog w base spare held fuel 52 cs = some x) :
    ∃ (x_0 : Bool) (x_1 : Bool) (x_2 : Bool) (x_3_0 : Bool) (x_3_1 : ByteArray) (x_4 : Int), cs = [.bool x_0, .bool x_1, .bool x_2, .bool x_3_0, .string x_3_1, .int .i64 x_4] ∧ x.1 = .agg [.lit (.bool x_0), .lit (.bool x_1), .lit (.bool x_2), .agg [.lit (.bool x_3_0), .lit (.string x_3_1.data.toList)], .lit (.int .i64 x_4)] ∧ (x_3_1.size ≤ maxLen ∧ (Lit.int .i64 x_4).wf = true) := by
  obtain ⟨xs, n, _, rfl, hl, hlen, hf⟩ := DataW.trod_struct Tryd.underlying52 h
  rw [show Tryd.prog.cellsOf 52 = 6 from by kernel_rfl] at hl
  match cs, hl with
  | [c0, c1, c2, c3, c4, c5], _ =>
  have hlen : xs.length = 5 := hlen
  match xs, hlen with
  | [y0, y1, y2, y3, y4], _ =>
    have g0 : DataW.trod enc Tryd.prog w base spare held n 4 (([c0, c1, c2, c3, c4, c5].drop 0).take (Tryd.prog.cellsOf 4)) = [y0, y1, y2, y3, y4][0]? := hf 0 _ rfl
    have g1 : DataW.trod enc Tryd.prog w base spare held n 4 (([c0, c1, c2, c3, c4, c5].drop 1).take (Tryd.prog.cellsOf 4)) = [y0, y1, y2, y3, y4][1]? := hf 1 _ rfl
    have g2 : DataW.trod enc Tryd.prog w base spare held n 4 (([c0, c1, c2, c3, c4, c5].drop 2).take (Tryd.prog.cellsOf 4)) = [y0, y1, y2, y3, y4][2]? := hf 2 _ rfl
    have g3 : DataW.trod enc Tryd.prog w base spare held n 29 (([c0, c1, c2, c3, c4, c5].drop 3).take (Tryd.prog.cellsOf 29)) = [y0, y1, y2, y3, y4][3]? := hf 3 _ rfl
    have g4 : DataW.trod enc Tryd.prog w base spare held n 3 (([c0, c1, c2, c3, c4, c5].drop 5).take (Tryd.prog.cellsOf 3)) = [y0, y1, y2, y3, y4][4]? := hf 4 _ rfl
    rw [show Tryd.prog.cellsOf 4 = 1 from by kernel_rfl] at g0
    simp only [List.drop_succ_cons, List.drop_zero, List.take_succ_cons, List.take_zero, List.getElem?_cons_succ, List.getElem?_cons_zero] at g0
    obtain ⟨x_0, e0, d0⟩ := DataW.trod_bool Tryd.underlying4 g0
    simp only [List.cons.injEq, and_true] at e0
    subst e0
    rw [show Tryd.prog.cellsOf 4 = 1 from by kernel_rfl] at g1
    simp only [List.drop_succ_cons, List.drop_zero, List.take_succ_cons, List.take_zero, List.getElem?_cons_succ, List.getElem?_cons_zero] at g1
    obtain ⟨x_1, e1, d1⟩ := DataW.trod_bool Tryd.underlying4 g1
    simp only [List.cons.injEq, and_true] at e1
    subst e1
    rw [show Tryd.prog.cellsOf 4 = 1 from by kernel_rfl] at g2
    simp only [List.drop_succ_cons, List.drop_zero, List.take_succ_cons, List.take_zero, List.getElem?_cons_succ, List.getElem?_cons_zero] at g2
    obtain ⟨x_2, e2, d2⟩ := DataW.trod_bool Tryd.underlying4 g2
    simp only [List.cons.injEq, and_true] at e2
    subst e2
    rw [show Tryd.prog.cellsOf 29 = 2 from by kernel_rfl] at g3
    simp only [List.drop_succ_cons, List.drop_zero, List.take_succ_cons, List.take_zero, List.getElem?_cons_succ, List.getElem?_cons_zero] at g3
    obtain ⟨x_3_0, x_3_1, e3, d3, f3_0⟩ := c_Tg g3
    simp only [List.cons.injEq, and_true] at e3
    obtain ⟨rfl, rfl⟩ := e3
    rw [show Tryd.prog.cellsOf 3 = 1 from by kernel_rfl] at g4
    simp only [List.drop_succ_cons, List.drop_zero, List.take_succ_cons, List.take_zero, List.getElem?_cons_succ, List.getElem?_cons_zero] at g4
    obtain ⟨x_4, e4, d4, f4_0⟩ := DataW.trod_int Tryd.underlying3 g4
    simp only [List.cons.injEq, and_true] at e4
    subst e4
    refine ⟨x_0, x_1, x_2, x_3_0, x_3_1, x_4, rfl, ?_, f3_0, f4_0⟩
    simp only [List.map_cons, List.map_nil, show y0.1 = _ from congrArg Prod.fst d0, show y1.1 = _ from congrArg Prod.fst d1, show y2.1 = _ from congrArg Prod.fst d2, d3, show y4.1 = _ from congrArg Prod.fst d4]
set_option maxRecDepth 100000 in
theorem c_Ask {fuel : Nat} {cs : List Value} {x : DataW H × List MemPlace} (h : DataW.trod enc Tryd.prog w base spare held fuel 54 cs = some x) :
    ∃ (x_0 : ByteArray) (x_1A : Option Addr) (x_1n : Nat) (x_1c : Nat) (x_1d : DataW H) (x_1p : List MemPlace) (x_2_0 : Bool) (x_2_1 : Bool) (x_2_2 : Bool) (x_2_3_0 : Bool) (x_2_3_1 : ByteArray) (x_2_4 : Int), cs = [.string x_0, .slice x_1A x_1n x_1c, .bool x_2_0, .bool x_2_1, .bool x_2_2, .bool x_2_3_0, .string x_2_3_1, .int .i64 x_2_4] ∧ x.1 = .agg [.lit (.string x_0.data.toList), x_1d, .agg [.lit (.bool x_2_0), .lit (.bool x_2_1), .lit (.bool x_2_2), .agg [.lit (.bool x_2_3_0), .lit (.string x_2_3_1.data.toList)], .lit (.int .i64 x_2_4)]] ∧ (x_0.size ≤ maxLen ∧ DataW.Trod enc Tryd.prog w base spare held 50 (.slice x_1A x_1n x_1c) x_1d x_1p ∧ x_2_3_1.size ≤ maxLen ∧ (Lit.int .i64 x_2_4).wf = true) := by
  obtain ⟨xs, n, _, rfl, hl, hlen, hf⟩ := DataW.trod_struct Tryd.underlying54 h
  rw [show Tryd.prog.cellsOf 54 = 8 from by kernel_rfl] at hl
  match cs, hl with
  | [c0, c1, c2, c3, c4, c5, c6, c7], _ =>
  have hlen : xs.length = 3 := hlen
  match xs, hlen with
  | [y0, y1, y2], _ =>
    have g0 : DataW.trod enc Tryd.prog w base spare held n 9 (([c0, c1, c2, c3, c4, c5, c6, c7].drop 0).take (Tryd.prog.cellsOf 9)) = [y0, y1, y2][0]? := hf 0 _ rfl
    have g1 : DataW.trod enc Tryd.prog w base spare held n 50 (([c0, c1, c2, c3, c4, c5, c6, c7].drop 1).take (Tryd.prog.cellsOf 50)) = [y0, y1, y2][1]? := hf 1 _ rfl
    have g2 : DataW.trod enc Tryd.prog w base spare held n 52 (([c0, c1, c2, c3, c4, c5, c6, c7].drop 2).take (Tryd.prog.cellsOf 52)) = [y0, y1, y2][2]? := hf 2 _ rfl
    rw [show Tryd.prog.cellsOf 9 = 1 from by kernel_rfl] at g0
    simp only [List.drop_succ_cons, List.drop_zero, List.take_succ_cons, List.take_zero, List.getElem?_cons_succ, List.getElem?_cons_zero] at g0
    obtain ⟨x_0, e0, d0, f0_0⟩ := DataW.trod_string Tryd.underlying9 g0
    simp only [List.cons.injEq, and_true] at e0
    subst e0
    rw [show Tryd.prog.cellsOf 50 = 1 from by kernel_rfl] at g1
    simp only [List.drop_succ_cons, List.drop_zero, List.take_succ_cons, List.take_zero, List.getElem?_cons_succ, List.getElem?_cons_zero] at g1
    obtain ⟨x_1A, x_1n, x_1c, e1, f1_0⟩ := c_slice Tryd.underlying50 g1
    simp only [List.cons.injEq, and_true] at e1
    subst e1
    rw [show Tryd.prog.cellsOf 52 = 6 from by kernel_rfl] at g2
    simp only [List.drop_succ_cons, List.drop_zero, List.take_succ_cons, List.take_zero, List.getElem?_cons_succ, List.getElem?_cons_zero] at g2
    obtain ⟨x_2_0, x_2_1, x_2_2, x_2_3_0, x_2_3_1, x_2_4, e2, d2, f2_0, f2_1⟩ := c_St10 g2
    simp only [List.cons.injEq, and_true] at e2
    obtain ⟨rfl, rfl, rfl, rfl, rfl, rfl⟩ := e2
    refine ⟨x_0, x_1A, x_1n, x_1c, _, _, x_2_0, x_2_1, x_2_2, x_2_3_0, x_2_3_1, x_2_4, rfl, ?_, f0_0, f1_0, f2_0, f2_1⟩
    simp only [List.map_cons, List.map_nil, show y0.1 = _ from congrArg Prod.fst d0, d2]
set_option maxRecDepth 100000 in
theorem open_Ask {r : Reach} {b0 : Nat} {v : Value} {d : DataW H} {p : List MemPlace} (hv : Value.okWide Tryd.prog w r b0 54 v) (h : DataW.Trod enc Tryd.prog w base spare held 54 v d p) :
    ∃ (x_0 : ByteArray) (x_1A : Option Addr) (x_1n : Nat) (x_1c : Nat) (x_1d : DataW H) (x_1p : List MemPlace) (x_2_0 : Bool) (x_2_1 : Bool) (x_2_2 : Bool) (x_2_3_0 : Bool) (x_2_3_1 : ByteArray) (x_2_4 : Int), v = .agg #[.string x_0, .slice x_1A x_1n x_1c, .bool x_2_0, .bool x_2_1, .bool x_2_2, .bool x_2_3_0, .string x_2_3_1, .int .i64 x_2_4] ∧ d = .agg [.lit (.string x_0.data.toList), x_1d, .agg [.lit (.bool x_2_0), .lit (.bool x_2_1), .lit (.bool x_2_2), .agg [.lit (.bool x_2_3_0), .lit (.string x_2_3_1.data.toList)], .lit (.int .i64 x_2_4)]] ∧ (x_0.size ≤ maxLen ∧ DataW.Trod enc Tryd.prog w base spare held 50 (.slice x_1A x_1n x_1c) x_1d x_1p ∧ x_2_3_1.size ≤ maxLen ∧ (Lit.int .i64 x_2_4).wf = true) := by
  obtain ⟨⟨cs⟩, fuel, rfl, hf⟩ := open_agg Tryd.underlying54 hv h
  obtain ⟨x_0, x_1A, x_1n, x_1c, x_1d, x_1p, x_2_0, x_2_1, x_2_2, x_2_3_0, x_2_3_1, x_2_4, hcs, hd, hfa⟩ := c_Ask hf
  exact ⟨x_0, x_1A, x_1n, x_1c, x_1d, x_1p, x_2_0, x_2_1, x_2_2, x_2_3_0, x_2_3_1, x_2_4, by rw [show cs = _ from hcs], hd, hfa⟩
set_option maxRecDepth 100000 in
theorem open_Tg {r : Reach} {b0 : Nat} {v : Value} {d : DataW H} {p : List MemPlace} (hv : Value.okWide Tryd.prog w r b0 29 v) (h : DataW.Trod enc Tryd.prog w base spare held 29 v d p) :
    ∃ (x_0 : Bool) (x_1 : ByteArray), v = .agg #[.bool x_0, .string x_1] ∧ d = .agg [.lit (.bool x_0), .lit (.string x_1.data.toList)] ∧ (x_1.size ≤ maxLen) := by
  obtain ⟨⟨cs⟩, fuel, rfl, hf⟩ := open_agg Tryd.underlying29 hv h
  obtain ⟨x_0, x_1, hcs, hd, hfa⟩ := c_Tg hf
  exact ⟨x_0, x_1, by rw [show cs = _ from hcs], hd, hfa⟩
end
end Go.Proofs.YtghaopeijncgaaaDoor
