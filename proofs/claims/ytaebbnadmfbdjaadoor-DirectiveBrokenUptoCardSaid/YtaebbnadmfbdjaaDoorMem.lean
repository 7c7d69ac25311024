
/- Plain facts on rows of a call's own: a literal slice; an own row beside a slice that is read; append with where the new row lies. No condition. -/
import Derived.Test.YtaebbnadmfbdjaaDoorSpec2
import Derived.Test.YtaebbnadmfbdjaaDoorRows
import Derived.Maps.AppendAt
set_option linter.unusedSimpArgs false
set_option linter.unusedVariables false
namespace Go.Proofs.YtaebbnadmfbdjaaDoor
open Go.RowKit

theorem infoFld : (Tryd.prog.info? 56).map (fun i => (i.zero, i.size, i.bytes)) = some (some (.agg #[.string ⟨#[]⟩, .string ⟨#[]⟩]), 2, 32) := by kernel_rfl
theorem own_lit (w : World) (cs : Array Value) (e : TypeId) {b : Nat} (hb : b = w.heap.size) (k n : Nat) (h : cs.size = n * k) (hn : n ≤ maxLen) :
    (w.alloc (.cells cs e)).ownsRow w.heap.size e k (.slice (some ⟨b, 0, none⟩) n n) n cs.toList := by
  subst hb
  exact ⟨by simpa using h, .inr ⟨w.heap.size, n, cs, rfl, Nat.le_refl _, heap_alloc_new w _, Nat.le_refl _, hn, h, List.take_of_length_le (by rw [Array.length_toList, h]; exact Nat.le_refl _)⟩⟩
theorem fmap_step {α β : Type} (g : α → List β) (l : List α) (k : Nat) (h : k < l.length) : (l.take (k + 1)).flatMap g = (l.take k).flatMap g ++ g l[k] := by
  rw [take_step l k h, List.flatMap_append, List.flatMap_singleton]
theorem map_step {α β : Type} (g : α → β) (l : List α) (k : Nat) (h : k < l.length) : (l.take (k + 1)).map g = (l.take k).map g ++ [g l[k]] := by
  rw [take_step l k h, List.map_append]; rfl

theorem cells_snoc (X : List ByteArray) (x : ByteArray) : strCells (X ++ [x]) = strCells X ++ [.string x] := List.map_append
theorem notB {b : Bool} (h : b = true) : (!b) = false := by rw [h]; rfl
theorem notB' {b : Bool} (h : b = false) : (!b) = true := by rw [h]; rfl

/-- An own row lies apart from a slice of n that is read. -/
def Sep (A : Option Addr) (n : Nat) (v : Value) : Prop := 0 < n → ∀ b o, A = some ⟨b, o, none⟩ → v.ownBlock ≠ some b
theorem Sep.of_own {w w' : World} {base e k m e' k' n c : Nat} {v : Value} {xs ys : List Value} {A : Option Addr} (hv : w.ownsRow base e k v m xs) (hi : w'.ownsRow w.heap.size e' k' (.slice A n c) n ys) : Sep A n v := by
  intro hn b o hA he
  have hlt := (hv.lt b he).2
  rcases hi.2 with ⟨hh, h0⟩ | ⟨g, cap, cur, hh, hb, _⟩
  · omega
  · injection hh with h1
    rw [hA] at h1
    injection h1 with h1
    injection h1 with h1
    omega
theorem Rd.sep {w w' : World} {n : Nat} {A : Option Addr} {ss : List ByteArray} {v : Value} (h : RdS w A n ss) (hg : w.grownBy w' v.ownBlock) (hs : Sep A n v) : RdS w' A n ss := by
  refine ⟨h.1, fun hp => ?_⟩
  obtain ⟨b, o, e, hc⟩ := h.2 hp
  have hn : 0 < n := by have := h.1; omega
  refine ⟨b, o, e, fun j u hu => ?_⟩
  have h1 := hc j u hu
  have hb : b < w.heap.size := World.block_lt_of_cell? w _ h1
  exact (World.cell?_of_block (hg.block b hb (fun hh => hs hn b o e hh.symm))).trans h1
theorem Sep.next {w : World} {n : Nat} {A : Option Addr} {ss : List ByteArray} {v v' : Value} (h : RdS w A n ss) (hs : Sep A n v) (hv : v'.ownBlock = v.ownBlock ∨ v'.ownBlock = some w.heap.size) : Sep A n v' := by
  intro hn b o e
  rcases hv with hv | hv
  · rw [hv]; exact hs hn b o e
  · obtain ⟨b', o', e', hc⟩ := h.2 (by have := h.1; omega)
    rw [e] at e'
    injection e' with e'
    injection e' with e1 e2
    have hl := h.1
    have hb : b' < w.heap.size := World.block_lt_of_cell? w _ (hc 0 _ (List.getElem?_eq_getElem (by omega)))
    rw [hv]
    intro hh
    injection hh with hh
    omega

/-- Append onto an own row, with where the new row lies. -/
theorem wpList_appAt {P : Program} (w : World) {ops : Array Oper} {rest : List Oper} {o : Oper} {a : Act} {Q : Exit → Act → World → Prop} (hgd : o.guard = none) (s x : Operand) (t : TypeId)
    (ho : o.op = .call { callee := .builtin .append, args := #[s, x], argTypes := #[t, t] })
    (w0 : World) (e : TypeId) (z : Value) (size bytes : Nat) (ht : P.underlying t = some (.slice e))
    (hinfo : (P.info? e).map (fun i => (i.zero, i.size, i.bytes)) = some (some z, size, bytes)) (hzs : z.cells.size = size) (hsz : 0 < size)
    (v : Value) (n : Nat) (xs : List Value) (hs : a.eval s = v) (hown : w.ownsRow w0.heap.size e size v n xs)
    (ad : Addr) (m c : Nat) (news : List Value) (hx : a.eval x = .slice (some ad) m c) (hl : news.length = m * size) (hnews : ∀ j u, news[j]? = some u → w.cell? (ad.add j) = some u) (h1 : ∀ u ∈ news, u.oneCell' = true)
    (hb : Ext w0 w) (hbytes : (n + m) * bytes ≤ 140737488355328) (hby0 : 0 < bytes)
    (h : ∀ A' c' w', w'.ownsRow w0.heap.size e size (.slice A' (n + m) c') (n + m) (xs ++ news) → Ext w0 w' → n + m ≤ c' → w.grownBy w' v.ownBlock → ((Value.slice A' (n + m) c').ownBlock = v.ownBlock ∨ (Value.slice A' (n + m) c').ownBlock = some w.heap.size) → wpList P ops Q rest (a.put o.dst (.slice A' (n + m) c')) w') : wpList P ops Q (o :: rest) a w := by
  have h63 : n + m ≤ maxLen := by
    have : (n + m) * 1 ≤ (n + m) * bytes := Nat.mul_le_mul_left _ hby0
    simp only [maxLen]; omega
  obtain ⟨i, hi, hz, hsize, hby⟩ := info_parts hinfo
  refine wpList_append_own_at w hgd s x t ho w0.heap.size e i z size bytes ht hi hz hsize hby hzs hsz v n xs hs hown ad m c news hx hl hnews h1 h63 hbytes hb.size ?_
  intro v' w' h2 h3 _ h5
  obtain ⟨A', c', rfl, hle⟩ := own_shape h2
  exact h A' c' w' h2 (hb.grown h3 (fun k hk => (hown.lt k hk).1)) hle h3 h5
end Go.Proofs.YtaebbnadmfbdjaaDoor
