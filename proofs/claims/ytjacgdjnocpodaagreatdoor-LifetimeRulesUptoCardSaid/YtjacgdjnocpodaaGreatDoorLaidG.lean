
/- Listed variables: from a row's condition to what the walks ask of them. No condition. -/
import Derived.Test.YtjacgdjnocpodaaGreatDoorSpec2
import Derived.Test.YtjacgdjnocpodaaGreatDoorRows
import Derived.OpenShut
import Derived.MakeChecks
import Derived.FnData
namespace Go.Proofs.YtjacgdjnocpodaaGreatDoor
open Go.RowKit Go.ChangeShapes

theorem laid_in {P : Program} {W : World} : ∀ {laid : List (String × DataW Unit)} {ps : List MemPlace}, DataW.LaidVars P W laid ps → ∀ x ∈ laid,
    ∃ g t cs fuel p, P.globalNamed x.1 = some g ∧ (P.globals[g]?).map (·.type) = some t ∧ W.var? P x.1 = some cs ∧ DataW.trod (fun _ => ()) P W 0 (fun _ => true) false fuel t cs.toList = some (x.2, p)
  | [], _, _, x, hx => by cases hx
  | (n, d) :: r, ps, h, x, hx => by
    obtain ⟨g, t, cs, fuel, p, q, h1, h2, h3, h4, h5, _⟩ := h
    rcases List.mem_cons.1 hx with rfl | hx
    · exact ⟨g, t, cs, fuel, p, h1, h2, h3, h4⟩
    · exact laid_in h5 x hx
theorem cells_arr {α : Type} {P : Program} {w : World} {base : Nat} {sp : Nat → Bool} {held : Bool} {fuel : Nat} {t e : TypeId} {n : Nat} {cs : List Value} {l : List α} {p : List MemPlace} (lit : α → DataW Unit) (cell : α → Value)
    (ht : P.underlying t = some (.array n e)) (hce : P.cellsOf e = 1) (hct : P.cellsOf t = n)
    (hone : ∀ m c a q, DataW.trod (fun _ => ()) P w base sp held m e [c] = some (lit a, q) → c = cell a)
    (h : DataW.trod (fun _ => ()) P w base sp held fuel t cs = some (.agg (l.map lit), p)) : cs = l.map cell := by
  obtain ⟨xs, m, rfl, hx, hlen, hxl, hg⟩ := DataW.trod_array ht h
  have hm : l.map lit = xs.map (·.1) := by
    have := congrArg Prod.fst hx
    simpa using this
  have hll : l.length = n := by
    have := congrArg List.length hm
    simp at this
    omega
  apply List.ext_getElem (by simp; omega)
  intro i h1 h2
  have hi : i < n := by omega
  have h3 := hg i hi
  rw [hce, Nat.mul_one] at h3
  have h4 : (cs.drop i).take 1 = [cs[i]] := by
    rw [List.drop_eq_getElem_cons h1]; rfl
  have hix : i < xs.length := by omega
  rw [h4, List.getElem?_eq_getElem hix] at h3
  have h5 : lit (l[i]'(by omega)) = (xs[i]).1 := by
    have := congrArg (·[i]?) hm
    simpa [hix, show i < l.length by omega] using this
  rw [List.getElem_map]
  refine hone m _ _ (xs[i]).2 ?_
  rw [h3, h5]
theorem tab_rd {α : Type} {P : Program} {W : World} {laid : List (String × DataW Unit)} {name : String} {g : Nat} {t e : TypeId} {n : Nat} {l : List α} (lit : α → DataW Unit) (cell : α → Value)
    (hp : (laid.all fun x => x.2.handleName?.isNone) = true) (h : laidMetH P laid W) (hin : (name, .agg (l.map lit)) ∈ laid) (hg : P.globalNamed name = some g) (hty : (P.globals[g]?).map (·.type) = some t)
    (ht : P.underlying t = some (.array n e)) (hce : P.cellsOf e = 1) (hct : P.cellsOf t = n)
    (hone : ∀ m c a q, DataW.trod (fun _ => ()) P W 0 (fun _ => true) false m e [c] = some (lit a, q) → c = cell a) (hl : l.length = n) : Rd W 1 (some ⟨g, 0, none⟩) n (l.map cell) := by
  rw [MakeChecks.laidMetH_plain _ _ _ hp] at h
  obtain ⟨ps, hv, _⟩ := h
  obtain ⟨g', t', cs, fuel, p, h1, h2, h3, h4⟩ := laid_in hv _ hin
  obtain rfl := Option.some.inj (hg.symm.trans h1)
  obtain rfl := Option.some.inj (hty.symm.trans h2)
  have hc := cells_arr lit cell ht hce hct hone h4
  refine ⟨by simp [hl], fun _ => ⟨g, 0, rfl, fun j u hu => ?_⟩⟩
  rw [Nat.zero_add, World.var?_cell hg h3 j, ← Array.getElem?_toList, hc]
  exact hu
theorem one_str {P : Program} {w : World} {base : Nat} {sp : Nat → Bool} {held : Bool} {e : TypeId} (he : P.underlying e = some .string) (m : Nat) (c : Value) (a : ByteArray) (q : List MemPlace)
    (h : DataW.trod (fun _ => ()) P w base sp held m e [c] = some (.lit (.string a.data.toList), q)) : c = .string a := by
  obtain ⟨s, h1, h2, _⟩ := DataW.trod_string he h
  simp only [List.cons.injEq, and_true] at h1
  simp only [Prod.mk.injEq, DataW.lit.injEq, Lit.string.injEq] at h2
  rw [h1, bytes_ext h2.1]
theorem one_int {P : Program} {w : World} {base : Nat} {sp : Nat → Bool} {held : Bool} {e : TypeId} {k : IntKind} (he : P.underlying e = some (.int k)) (m : Nat) (c : Value) (a : Int) (q : List MemPlace)
    (h : DataW.trod (fun _ => ()) P w base sp held m e [c] = some (.lit (.int k a), q)) : c = .int k a := by
  obtain ⟨s, h1, h2, _⟩ := DataW.trod_int he h
  simp only [List.cons.injEq, and_true] at h1
  simp only [Prod.mk.injEq, DataW.lit.injEq, Lit.int.injEq, true_and] at h2
  rw [h1, h2.1]
end Go.Proofs.YtjacgdjnocpodaaGreatDoor
