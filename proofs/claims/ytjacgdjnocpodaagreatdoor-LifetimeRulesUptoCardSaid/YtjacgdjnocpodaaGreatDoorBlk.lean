
/- A block that is known whole; a world with writes to one block alone; whole structs loaded and stored. Plain facts on memory. -/
import Derived.Test.YtjacgdjnocpodaaGreatDoorBase
import Derived.Maps.AppendAt
import Derived.Laws.Rows
import Derived.Laws.Tables
namespace Go.Proofs.YtjacgdjnocpodaaGreatDoor
open Go.RowKit

/-- A block that is known whole. -/
def Blk (w : World) (g : Nat) (t : TypeId) (cs : Array Value) : Prop := w.heap[g]? = some (.cells cs t (0, 0))
section
variable {w w' : World} {g : Nat} {t : TypeId} {cs : Array Value}
theorem Blk.lt (h : Blk w g t cs) : g < w.heap.size := by
  rcases Nat.lt_or_ge g w.heap.size with hlt | hge
  · exact hlt
  · unfold Blk at h; rw [Array.getElem?_eq_none hge] at h; cases h
theorem Blk.cell (h : Blk w g t cs) (i : Nat) : w.cell? ⟨g, i, none⟩ = cs[i]? := cell_of_row w g i cs t (0, 0) h
theorem Blk.frozen (h : Blk w g t cs) (i : Nat) : w.frozen? ⟨g, i, none⟩ = false := frozen_of_row w g i cs t h
theorem Blk.new (w : World) (t : TypeId) (cs : Array Value) : Blk (w.alloc (.cells cs t)) w.heap.size t cs := heap_alloc_new w _
theorem Blk.ext (h : Blk w g t cs) (hb : Ext w w') : Blk w' g t cs := (hb.below.block g h.lt).trans h
theorem Blk.alloc (h : Blk w g t cs) (o : Obj) : Blk (w.alloc o) g t cs := h.ext ((Ext.refl _).alloc o)
theorem Blk.drew (h : Blk w g t cs) : Blk w.drew g t cs := h
theorem Blk.set_ (h : Blk w g t cs) (i : Nat) (u : Value) : Blk (w.setCell ⟨g, i, none⟩ u) g t (cs.setIfInBounds i u) := heap_setCell_same w g i cs t u h
theorem Blk.far (h : Blk w g t cs) {p : Addr} (hp : g ≠ p.block) (u : Value) : Blk (w.setCell p u) g t cs := (heap_setCell_other w p g u hp).trans h
theorem Blk.grown {row : Option Nat} (h : Blk w g t cs) (hb : w.grownBy w' row) (hg : some g ≠ row) : Blk w' g t cs := (hb.block g h.lt hg).trans h
end
/-- w' is w with more memory, and with writes to block b alone. -/
def ExtB (b : Nat) (w w' : World) : Prop := w.grownBy w' (some b)
theorem ExtB.of {b : Nat} {w w' : World} (h : Ext w w') : ExtB b w w' := ⟨h.below.os, h.below.tape, h.below.output, h.below.size, fun i hi _ => h.below.block i hi⟩
theorem ExtB.refl (b : Nat) (w : World) : ExtB b w w := ExtB.of (Ext.refl w)
theorem ExtB.trans {b : Nat} {a c d : World} (h : ExtB b a c) (k : ExtB b c d) : ExtB b a d := World.grownBy.trans h k
theorem ExtB.set_ {b : Nat} {w w' : World} (h : ExtB b w w') (i : Nat) (u : Value) : ExtB b w (w'.setCell ⟨b, i, none⟩ u) :=
  h.trans ⟨rfl, rfl, rfl, by simp [World.setCell], fun k hk hne => heap_setCell_other _ _ _ _ (fun e => hne (by rw [e]))⟩
theorem ExtB.size {b : Nat} {w w' : World} (h : ExtB b w w') : w.heap.size ≤ w'.heap.size := World.grownBy.size h
theorem Ext.growB {b : Nat} {w0 w w' : World} (h : Ext w0 w) (hg : ExtB b w w') (hb : w0.heap.size ≤ b) : Ext w0 w' :=
  h.grown hg (fun k hk => by cases hk; exact hb)
theorem Rd.growB {b : Nat} {w w' : World} {k n : Nat} {A : Option Addr} {xs : List Value} (h : Rd w k A n xs) (hg : ExtB b w w') (hne : ∀ a, A = some a → a.block ≠ b) : Rd w' k A n xs := by
  refine ⟨h.1, fun hn => ?_⟩
  obtain ⟨b', o, e, hc⟩ := h.2 hn
  refine ⟨b', o, e, fun j u hu => ?_⟩
  have h1 := hc j u hu
  exact World.grownBy.cell hg h1 (fun hh => hne _ e (by injection hh))

section
variable {P : Program}
theorem wpList_loadB {ops : Array Oper} {rest : List Oper} {o : Oper} {a : Act} {w : World} {Q : Exit → Act → World → Prop} (hgd : o.guard = none) (ty : TypeId) (x : Operand) (ho : o.op = .load ty x)
    (g : Nat) (hx : a.eval x = .pointer (some ⟨g, 0, none⟩)) (t : TypeId) (cs : Array Value) (hg : Blk w g t cs) (fs : Array Field)
    (hu : P.underlying ty = some (.struct fs)) (hi : (P.info? ty).map (·.size) = some cs.size)
    (h : wpList P ops Q rest (a.put o.dst (.agg cs)) w) : wpList P ops Q (o :: rest) a w :=
  wpList_load_row hgd ty x ho g hx t cs (0, 0) _ hg hu rfl hi h
theorem wpList_storeB {ops : Array Oper} {rest : List Oper} {o : Oper} {a : Act} {w : World} {Q : Exit → Act → World → Prop} (hgd : o.guard = none) (ty : TypeId) (x y : Operand) (ho : o.op = .store ty x y)
    (hd : o.dst = none) (g : Nat) (cells : Array Value) (hx : a.eval x = .pointer (some ⟨g, 0, none⟩)) (hy : a.eval y = .agg cells)
    (t : TypeId) (old : Array Value) (hg : Blk w g t old) (hi : (P.info? ty).map (·.size) = some cells.size)
    (hold : old.size = cells.size) (h1 : cells.all (·.oneCell') = true)
    (h : ∀ w', Blk w' g t cells → ExtB g w w' → wpList P ops Q rest a w') : wpList P ops Q (o :: rest) a w :=
  wpList_store_row hgd ty x y ho g cells hx hy t old hg hi hold h1 (by
    rw [hd]
    exact h _ (setRow_heap w g old cells t (0, 0) hg) ⟨rfl, rfl, rfl, by simp, fun k _ hne => setRow_other w g k cells (fun e => hne (by rw [e]))⟩)
end
end Go.Proofs.YtjacgdjnocpodaaGreatDoor
