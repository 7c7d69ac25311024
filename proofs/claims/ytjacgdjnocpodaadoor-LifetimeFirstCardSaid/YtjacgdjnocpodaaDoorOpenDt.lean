
/- Struct arguments opened: three dates. Plain facts on readings. -/
import Derived.Test.YtjacgdjnocpodaaDoorOpenU
import Derived.Lib.SmallJoins
namespace Go.Proofs.YtjacgdjnocpodaaDoor
open Go.ChangeShapes Go.WideShapes Go.RowKit Go.Deep Go.Joins
section
variable {H : Type} {enc : TypeId × Value → H} {w : World} {base : Nat} {spare : Nat → Bool} {held : Bool}
theorem c_slice {P : Program} {t e : TypeId} {fuel : Nat} {cs : List Value} {x : DataW H × List MemPlace} (ht : P.underlying t = some (.slice e)) (h : DataW.trod enc P w base spare held fuel t cs = some x) :
    ∃ A n c, cs = [.slice A n c] ∧ DataW.Trod enc P w base spare held t (.slice A n c) x.1 x.2 := by
  rcases open_slice ht h with ⟨rfl, hx⟩ | ⟨a, len, cap, m, k, D, Pl, rfl, hb, hl, hm, hmm, hx, hi⟩
  · exact ⟨_, _, _, rfl, fuel, by simpa [Value.cells] using h⟩
  · exact ⟨_, _, _, rfl, fuel, by simpa [Value.cells] using h⟩
theorem open_agg {P : Program} {r : Reach} {b0 : Nat} {t : TypeId} {fs : Array Field} {v : Value} {d : DataW H} {p : List MemPlace} (hs : P.underlying t = some (.struct fs)) (hv : Value.okWide P w r b0 t v) (h : DataW.Trod enc P w base spare held t v d p) :
    ∃ (cs : Array Value) (fuel : Nat), v = .agg cs ∧ DataW.trod enc P w base spare held fuel t cs.toList = some (d, p) := by
  obtain ⟨cs, rfl, hsz⟩ := okWide_struct hs hv
  obtain ⟨fuel, hf⟩ := h
  exact ⟨cs, fuel, rfl, by simpa [Value.cells] using hf⟩
set_option maxRecDepth 100000 in
theorem c_Dt {fuel : Nat} {cs : List Value} {x : DataW H × List MemPlace} (h : DataW.trod enc Tryd.prog w base spare held fuel 35 cs = some x) :
    ∃ (x_0 : Int) (x_1 : Int) (x_2 : Int), cs = [.int .i64 x_0, .int .i64 x_1, .int .i64 x_2] ∧ x.1 = .agg [.lit (.int .i64 x_0), .lit (.int .i64 x_1), .lit (.int .i64 x_2)] ∧ ((Lit.int .i64 x_0).wf = true ∧ (Lit.int .i64 x_1).wf = true ∧ (Lit.int .i64 x_2).wf = true) := by
  obtain ⟨xs, n, _, rfl, hl, hlen, hf⟩ := DataW.trod_struct Tryd.underlying35 h
  rw [show Tryd.prog.cellsOf 35 = 3 from by kernel_rfl] at hl
  match cs, hl with
  | [c0, c1, c2], _ =>
  have hlen : xs.length = 3 := hlen
  match xs, hlen with
  | [y0, y1, y2], _ =>
    have g0 : DataW.trod enc Tryd.prog w base spare held n 3 (([c0, c1, c2].drop 0).take (Tryd.prog.cellsOf 3)) = [y0, y1, y2][0]? := hf 0 _ rfl
    have g1 : DataW.trod enc Tryd.prog w base spare held n 3 (([c0, c1, c2].drop 1).take (Tryd.prog.cellsOf 3)) = [y0, y1, y2][1]? := hf 1 _ rfl
    have g2 : DataW.trod enc Tryd.prog w base spare held n 3 (([c0, c1, c2].drop 2).take (Tryd.prog.cellsOf 3)) = [y0, y1, y2][2]? := hf 2 _ rfl
    rw [show Tryd.prog.cellsOf 3 = 1 from by kernel_rfl] at g0
    simp only [List.drop_succ_cons, List.drop_zero, List.take_succ_cons, List.take_zero, List.getElem?_cons_succ, List.getElem?_cons_zero] at g0
    obtain ⟨x_0, e0, d0, f0_0⟩ := DataW.trod_int Tryd.underlying3 g0
    simp only [List.cons.injEq, and_true] at e0
    subst e0
    rw [show Tryd.prog.cellsOf 3 = 1 from by kernel_rfl] at g1
    simp only [List.drop_succ_cons, List.drop_zero, List.take_succ_cons, List.take_zero, List.getElem?_cons_succ, List.getElem?_cons_zero] at g1
    obtain ⟨x_1, e1, d1, f1_0⟩ := DataW.trod_int Tryd.underlying3 g1
    simp only [List.cons.injEq, and_true] at e1
    subst e1
    rw [show Tryd.prog.cellsOf 3 = 1 from by kernel_rfl] at g2
    simp only [List.drop_succ_cons, List.drop_zero, List.take_succ_cons, List.take_zero, List.getElem?_cons_succ, List.getElem?_cons_zero] at g2
    obtain ⟨x_2, e2, d2, f2_0⟩ := DataW.trod_int Tryd.underlying3 g2
    simp only [List.cons.injEq, and_true] at e2
    subst e2
    refine ⟨x_0, x_1, x_2, rfl, ?_, f0_0, f1_0, f2_0⟩
    simp only [List.map_cons, List.map_nil, show y0.1 = _ from congrArg Prod.fst d0, show y1.1 = _ from congrArg Prod.fst d1, show y2.1 = _ from congrArg Prod.fst d2]
set_option maxRecDepth 100000 in
theorem open_Dt {r : Reach} {b0 : Nat} {v : Value} {d : DataW H} {p : List MemPlace} (hv : Value.okWide Tryd.prog w r b0 35 v) (h : DataW.Trod enc Tryd.prog w base spare held 35 v d p) :
    ∃ (x_0 : Int) (x_1 : Int) (x_2 : Int), v = .agg #[.int .i64 x_0, .int .i64 x_1, .int .i64 x_2] ∧ d = .agg [.lit (.int .i64 x_0), .lit (.int .i64 x_1), .lit (.int .i64 x_2)] ∧ ((Lit.int .i64 x_0).wf = true ∧ (Lit.int .i64 x_1).wf = true ∧ (Lit.int .i64 x_2).wf = true) := by
  obtain ⟨⟨cs⟩, fuel, rfl, hf⟩ := open_agg Tryd.underlying35 hv h
  obtain ⟨x_0, x_1, x_2, hcs, hd, hfa⟩ := c_Dt hf
  exact ⟨x_0, x_1, x_2, by rw [show cs = _ from hcs], hd, hfa⟩
end
theorem open_arr2i {H : Type} {enc : TypeId × Value → H} {P : Program} {w : World} {base : Nat} {spare : Nat → Bool} {held : Bool} {t S : TypeId} {k : IntKind} {v : Value} {d : DataW H} {p : List MemPlace} {r : Reach} {b0 : Nat}
    (ht : P.underlying t = some (.array 2 S)) (hS : P.underlying S = some (.int k)) (hc : P.cellsOf S = 1) (hct : P.cellsOf t = 2) (hv : Value.okWide P w r b0 t v) (h : DataW.Trod enc P w base spare held t v d p) :
    ∃ a b : Int, v = .agg #[.int k a, .int k b] ∧ (Lit.int k a).wf = true ∧ (Lit.int k b).wf = true := by
  simp only [Value.okWide, ht] at hv
  obtain ⟨cs, rfl, hsz, _⟩ := hv
  rw [hct] at hsz
  obtain ⟨fuel, hf⟩ := h
  obtain ⟨xs, m, _, hx, _, hlen, hg⟩ := DataW.trod_array ht hf
  obtain ⟨l⟩ := cs
  match l, hsz with
  | [c0, c1], _ =>
    match xs, hlen with
    | [y0, y1], _ =>
      have g0 := hg 0 (by omega)
      have g1 := hg 1 (by omega)
      simp only [Value.cells, hc, Nat.zero_mul, List.drop_zero, List.take_succ_cons, List.take_zero, List.getElem?_cons_zero] at g0
      simp only [Value.cells, hc, Nat.one_mul, List.drop_succ_cons, List.drop_zero, List.take_succ_cons, List.take_zero, List.getElem?_cons_succ, List.getElem?_cons_zero] at g1
      obtain ⟨a, ha, _, hwa⟩ := DataW.trod_int hS g0
      obtain ⟨b, hb, _, hwb⟩ := DataW.trod_int hS g1
      simp only [List.cons.injEq, and_true] at ha hb
      subst ha; subst hb
      exact ⟨a, b, rfl, hwa, hwb⟩
theorem u16_wf {x : Int} (h : (Lit.int .u16 x).wf = true) : 0 ≤ x ∧ x ≤ 65535 := by
  simp [Lit.wf] at h
  have e1 : IntKind.u16.min = 0 := rfl
  have e2 : IntKind.u16.max = 65535 := rfl
  omega
end Go.Proofs.YtjacgdjnocpodaaDoor
