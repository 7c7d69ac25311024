
/- Directives in plain words; strings.Cut at a sign of equality. -/
import Derived.Test.YtaebbnadmfbdjaaDoorTime
import Derived.Maps.AppendAt
import Derived.Deep.RegionHeld3
import Derived.Laws.Rows
set_option linter.unusedSimpArgs false
set_option linter.unusedVariables false
namespace Go.Proofs.YtaebbnadmfbdjaaDoor
open Go.RowKit

/-- What Cache-Control fields say. -/
structure D where
  b0 : Bool
  b1 : Bool
  b2 : Bool
  b3 : Bool
  b4 : Bool
  b5 : Bool
  n0 : Int
  n1 : Int
  n2 : Int
  n3 : Int
  n4 : Int
  n5 : Int
def dArr (d : D) : Array Value := #[.bool d.b0, .bool d.b1, .bool d.b2, .bool d.b3, .bool d.b4, .bool d.b5, .int .i64 d.n0, .int .i64 d.n1, .int .i64 d.n2, .int .i64 d.n3, .int .i64 d.n4, .int .i64 d.n5]
def noneD : D := ⟨false, false, false, false, false, false, -1, -1, -1, -1, -1, -1⟩
def lst (a b : Int) : Int := if a < 0 then b else if b < 0 then a else min a b

/-- Which directive a name in lower case is. -/
def kindE (L : ByteArray) : Nat :=
  if L.toList == [110, 111, 45, 115, 116, 111, 114, 101] then 0
  else if L.toList == [110, 111, 45, 99, 97, 99, 104, 101] then 1
  else if L.toList == [112, 114, 105, 118, 97, 116, 101] then 2
  else if L.toList == [112, 117, 98, 108, 105, 99] then 3
  else if L.toList == [109, 117, 115, 116, 45, 114, 101, 118, 97, 108, 105, 100, 97, 116, 101] then 4
  else if L.toList == [112, 114, 111, 120, 121, 45, 114, 101, 118, 97, 108, 105, 100, 97, 116, 101] then 5
  else if L.toList == [111, 110, 108, 121, 45, 105, 102, 45, 99, 97, 99, 104, 101, 100] then 6
  else if L.toList == [109, 97, 120, 45, 97, 103, 101] then 7
  else if L.toList == [115, 45, 109, 97, 120, 97, 103, 101] then 8
  else if L.toList == [115, 116, 97, 108, 101, 45, 119, 104, 105, 108, 101, 45, 114, 101, 118, 97, 108, 105, 100, 97, 116, 101] then 9
  else if L.toList == [115, 116, 97, 108, 101, 45, 105, 102, 45, 101, 114, 114, 111, 114] then 10
  else if L.toList == [109, 97, 120, 45, 115, 116, 97, 108, 101] then 11
  else if L.toList == [109, 105, 110, 45, 102, 114, 101, 115, 104] then 12
  else 13
def nameE (x : ByteArray) : ByteArray := ⟨(Lib.cut x.data.toList [61]).1.toArray⟩
def argE (x : ByteArray) : ByteArray := ⟨(Lib.cut x.data.toList [61]).2.1.toArray⟩
def thE (x : ByteArray) : Bool := (Lib.cut x.data.toList [61]).2.2
def stepK (d : D) (k : Nat) (t u v : Int) : D :=
  match k with
  | 0 => { d with b0 := true }
  | 1 => { d with b1 := true }
  | 2 => { d with b2 := true }
  | 3 => { d with b3 := true }
  | 4 => { d with b4 := true }
  | 5 => { d with b4 := true }
  | 6 => { d with b5 := true }
  | 7 => { d with n0 := lst d.n0 t }
  | 8 => { d with n1 := lst d.n1 t }
  | 9 => { d with n2 := lst d.n2 t }
  | 10 => { d with n3 := lst d.n3 t }
  | 11 => { d with n4 := lst d.n4 u }
  | 12 => { d with n5 := max d.n5 v }
  | _ => d
/-- Directives with one element more. -/
def stepD (d : D) (x : ByteArray) : D :=
  stepK d (kindE (lowS (nameE x))) (timeV (argE x) (thE x) 0 0) (timeV (argE x) (thE x) 0 2147483647) (timeV (argE x) (thE x) 2147483647 2147483647)

theorem cut_size (x : ByteArray) : (nameE x).size ≤ x.size ∧ (argE x).size ≤ x.size := by
  have h : (nameE x).size = (Lib.cut x.data.toList [61]).1.length ∧ (argE x).size = (Lib.cut x.data.toList [61]).2.1.length := ⟨by simp [nameE, ByteArray.size], by simp [argE, ByteArray.size]⟩
  rw [h.1, h.2]
  have hx : x.size = x.data.toList.length := by simp
  rw [hx]
  unfold Lib.cut
  split
  · simp only [List.length_take, List.length_drop]; omega
  · simp only [List.length_nil]; omega

/-- What every call of the package needs of the library's own variables. -/
def Gl (w : World) : Prop := ∃ m, w.cell? ⟨0, 0, none⟩ = some (.int .i64 m)
theorem Gl.ext {w w' : World} (h : Gl w) (hb : Ext w w') : Gl w' := by
  obtain ⟨m, hm⟩ := h; exact ⟨m, hb.cell hm⟩

theorem cut_eq (x : ByteArray) (w : World) (hs : x.size ≤ 1048576) (hg : Gl w) :
    Calls Tryd.prog 41 #[.string x, .string ⟨#[61]⟩] w fun e w' => e = .returned (.tuple #[.string (nameE x), .string (argE x), .bool (thE x)]) ∧ Ext w w' := by
  obtain ⟨m, hm⟩ := hg
  refine (Tryd.strings_Cut x ⟨#[61]⟩ m w (by omega) hm).mono ?_
  rintro e w' ⟨rfl, n, rfl⟩
  exact ⟨rfl, (Ext.refl _).drewN n⟩

/-- A block that is known whole. -/
def Blk (w : World) (g : Nat) (t : TypeId) (cs : Array Value) : Prop := w.heap[g]? = some (.cells cs t (0, 0))
section
variable {w w' : World} {g : Nat} {t : TypeId} {cs : Array Value}
theorem Blk.lt (h : Blk w g t cs) : g < w.heap.size := by
  rcases Nat.lt_or_ge g w.heap.size with hlt | hge
  · exact hlt
  · unfold Blk at h; rw [Array.getElem?_eq_none hge] at h; cases h
theorem Blk.cell (h : Blk w g t cs) (i : Nat) : w.cell? ⟨g, i, none⟩ = cs[i]? := cell_of_row w g i cs t (0, 0) h
theorem Blk.frozen (h : Blk w g t cs) (i : Nat) : w.frozen? ⟨g, i, none⟩ = false := frozen_of_row w g i cs t h
theorem Blk.new (w : World) (t : TypeId) (cs : Array Value) : Blk (w.alloc (.cells cs t)) w.heap.size t cs := heap_alloc_new w _
theorem Blk.ext (h : Blk w g t cs) (hb : Ext w w') : Blk w' g t cs := (hb.below.block g h.lt).trans h
theorem Blk.alloc (h : Blk w g t cs) (o : Obj) : Blk (w.alloc o) g t cs := h.ext ((Ext.refl _).alloc o)
theorem Blk.drew (h : Blk w g t cs) : Blk w.drew g t cs := h
theorem Blk.set_ (h : Blk w g t cs) (i : Nat) (u : Value) : Blk (w.setCell ⟨g, i, none⟩ u) g t (cs.setIfInBounds i u) := heap_setCell_same w g i cs t u h
theorem Blk.far (h : Blk w g t cs) {p : Addr} (hp : g ≠ p.block) (u : Value) : Blk (w.setCell p u) g t cs := (heap_setCell_other w p g u hp).trans h
theorem Blk.grown {row : Option Nat} (h : Blk w g t cs) (hb : w.grownBy w' row) (hg : some g ≠ row) : Blk w' g t cs := (hb.block g h.lt hg).trans h
end
/-- w' is w with more memory, and with writes to block b alone. -/
def ExtB (b : Nat) (w w' : World) : Prop := w.grownBy w' (some b)
theorem ExtB.of {b : Nat} {w w' : World} (h : Ext w w') : ExtB b w w' := ⟨h.below.os, h.below.tape, h.below.output, h.below.size, fun i hi _ => h.below.block i hi⟩
theorem ExtB.refl (b : Nat) (w : World) : ExtB b w w := ExtB.of (Ext.refl w)
theorem ExtB.trans {b : Nat} {a c d : World} (h : ExtB b a c) (k : ExtB b c d) : ExtB b a d := World.grownBy.trans h k
theorem ExtB.set_ {b : Nat} {w w' : World} (h : ExtB b w w') (i : Nat) (u : Value) : ExtB b w (w'.setCell ⟨b, i, none⟩ u) :=
  h.trans ⟨rfl, rfl, rfl, by simp [World.setCell], fun k hk hne => heap_setCell_other _ _ _ _ (fun e => hne (by rw [e]))⟩
theorem ExtB.size {b : Nat} {w w' : World} (h : ExtB b w w') : w.heap.size ≤ w'.heap.size := World.grownBy.size h
theorem Ext.growB {b : Nat} {w0 w w' : World} (h : Ext w0 w) (hg : ExtB b w w') (hb : w0.heap.size ≤ b) : Ext w0 w' :=
  h.grown hg (fun k hk => by cases hk; exact hb)
theorem Rd.growB {b : Nat} {w w' : World} {k n : Nat} {A : Option Addr} {xs : List Value} (h : Rd w k A n xs) (hg : ExtB b w w') (hne : ∀ a, A = some a → a.block ≠ b) : Rd w' k A n xs := by
  refine ⟨h.1, fun hn => ?_⟩
  obtain ⟨b', o, e, hc⟩ := h.2 hn
  refine ⟨b', o, e, fun j u hu => ?_⟩
  have h1 := hc j u hu
  exact World.grownBy.cell hg h1 (fun hh => hne _ e (by injection hh))

theorem kind_0 {L : ByteArray} (h0 : (L.toList == [110, 111, 45, 115, 116, 111, 114, 101]) = true) : kindE L = 0 := by
  unfold kindE
  rw [h0, if_pos rfl]
theorem kind_1 {L : ByteArray} (h0 : (L.toList == [110, 111, 45, 115, 116, 111, 114, 101]) = false) (h1 : (L.toList == [110, 111, 45, 99, 97, 99, 104, 101]) = true) : kindE L = 1 := by
  unfold kindE
  rw [h0, if_neg (by simp)]
  rw [h1, if_pos rfl]
theorem kind_2 {L : ByteArray} (h0 : (L.toList == [110, 111, 45, 115, 116, 111, 114, 101]) = false) (h1 : (L.toList == [110, 111, 45, 99, 97, 99, 104, 101]) = false) (h2 : (L.toList == [112, 114, 105, 118, 97, 116, 101]) = true) : kindE L = 2 := by
  unfold kindE
  rw [h0, if_neg (by simp)]
  rw [h1, if_neg (by simp)]
  rw [h2, if_pos rfl]
theorem kind_3 {L : ByteArray} (h0 : (L.toList == [110, 111, 45, 115, 116, 111, 114, 101]) = false) (h1 : (L.toList == [110, 111, 45, 99, 97, 99, 104, 101]) = false) (h2 : (L.toList == [112, 114, 105, 118, 97, 116, 101]) = false) (h3 : (L.toList == [112, 117, 98, 108, 105, 99]) = true) : kindE L = 3 := by
  unfold kindE
  rw [h0, if_neg (by simp)]
  rw [h1, if_neg (by simp)]
  rw [h2, if_neg (by simp)]
  rw [h3, if_pos rfl]
theorem kind_4 {L : ByteArray} (h0 : (L.toList == [110, 111, 45, 115, 116, 111, 114, 101]) = false) (h1 : (L.toList == [110, 111, 45, 99, 97, 99, 104, 101]) = false) (h2 : (L.toList == [112, 114, 105, 118, 97, 116, 101]) = false) (h3 : (L.toList == [112, 117, 98, 108, 105, 99]) = false) (h4 : (L.toList == [109, 117, 115, 116, 45, 114, 101, 118, 97, 108, 105, 100, 97, 116, 101]) = true) : kindE L = 4 := by
  unfold kindE
  rw [h0, if_neg (by simp)]
  rw [h1, if_neg (by simp)]
  rw [h2, if_neg (by simp)]
  rw [h3, if_neg (by simp)]
  rw [h4, if_pos rfl]
theorem kind_5 {L : ByteArray} (h0 : (L.toList == [110, 111, 45, 115, 116, 111, 114, 101]) = false) (h1 : (L.toList == [110, 111, 45, 99, 97, 99, 104, 101]) = false) (h2 : (L.toList == [112, 114, 105, 118, 97, 116, 101]) = false) (h3 : (L.toList == [112, 117, 98, 108, 105, 99]) = false) (h4 : (L.toList == [109, 117, 115, 116, 45, 114, 101, 118, 97, 108, 105, 100, 97, 116, 101]) = false) (h5 : (L.toList == [112, 114, 111, 120, 121, 45, 114, 101, 118, 97, 108, 105, 100, 97, 116, 101]) = true) : kindE L = 5 := by
  unfold kindE
  rw [h0, if_neg (by simp)]
  rw [h1, if_neg (by simp)]
  rw [h2, if_neg (by simp)]
  rw [h3, if_neg (by simp)]
  rw [h4, if_neg (by simp)]
  rw [h5, if_pos rfl]
theorem kind_6 {L : ByteArray} (h0 : (L.toList == [110, 111, 45, 115, 116, 111, 114, 101]) = false) (h1 : (L.toList == [110, 111, 45, 99, 97, 99, 104, 101]) = false) (h2 : (L.toList == [112, 114, 105, 118, 97, 116, 101]) = false) (h3 : (L.toList == [112, 117, 98, 108, 105, 99]) = false) (h4 : (L.toList == [109, 117, 115, 116, 45, 114, 101, 118, 97, 108, 105, 100, 97, 116, 101]) = false) (h5 : (L.toList == [112, 114, 111, 120, 121, 45, 114, 101, 118, 97, 108, 105, 100, 97, 116, 101]) = false) (h6 : (L.toList == [111, 110, 108, 121, 45, 105, 102, 45, 99, 97, 99, 104, 101, 100]) = true) : kindE L = 6 := by
  unfold kindE
  rw [h0, if_neg (by simp)]
  rw [h1, if_neg (by simp)]
  rw [h2, if_neg (by simp)]
  rw [h3, if_neg (by simp)]
  rw [h4, if_neg (by simp)]
  rw [h5, if_neg (by simp)]
  rw [h6, if_pos rfl]
theorem kind_7 {L : ByteArray} (h0 : (L.toList == [110, 111, 45, 115, 116, 111, 114, 101]) = false) (h1 : (L.toList == [110, 111, 45, 99, 97, 99, 104, 101]) = false) (h2 : (L.toList == [112, 114, 105, 118, 97, 116, 101]) = false) (h3 : (L.toList == [112, 117, 98, 108, 105, 99]) = false) (h4 : (L.toList == [109, 117, 115, 116, 45, 114, 101, 118, 97, 108, 105, 100, 97, 116, 101]) = false) (h5 : (L.toList == [112, 114, 111, 120, 121, 45, 114, 101, 118, 97, 108, 105, 100, 97, 116, 101]) = false) (h6 : (L.toList == [111, 110, 108, 121, 45, 105, 102, 45, 99, 97, 99, 104, 101, 100]) = false) (h7 : (L.toList == [109, 97, 120, 45, 97, 103, 101]) = true) : kindE L = 7 := by
  unfold kindE
  rw [h0, if_neg (by simp)]
  rw [h1, if_neg (by simp)]
  rw [h2, if_neg (by simp)]
  rw [h3, if_neg (by simp)]
  rw [h4, if_neg (by simp)]
  rw [h5, if_neg (by simp)]
  rw [h6, if_neg (by simp)]
  rw [h7, if_pos rfl]
theorem kind_8 {L : ByteArray} (h0 : (L.toList == [110, 111, 45, 115, 116, 111, 114, 101]) = false) (h1 : (L.toList == [110, 111, 45, 99, 97, 99, 104, 101]) = false) (h2 : (L.toList == [112, 114, 105, 118, 97, 116, 101]) = false) (h3 : (L.toList == [112, 117, 98, 108, 105, 99]) = false) (h4 : (L.toList == [109, 117, 115, 116, 45, 114, 101, 118, 97, 108, 105, 100, 97, 116, 101]) = false) (h5 : (L.toList == [112, 114, 111, 120, 121, 45, 114, 101, 118, 97, 108, 105, 100, 97, 116, 101]) = false) (h6 : (L.toList == [111, 110, 108, 121, 45, 105, 102, 45, 99, 97, 99, 104, 101, 100]) = false) (h7 : (L.toList == [109, 97, 120, 45, 97, 103, 101]) = false) (h8 : (L.toList == [115, 45, 109, 97, 120, 97, 103, 101]) = true) : kindE L = 8 := by
  unfold kindE
  rw [h0, if_neg (by simp)]
  rw [h1, if_neg (by simp)]
  rw [h2, if_neg (by simp)]
  rw [h3, if_neg (by simp)]
  rw [h4, if_neg (by simp)]
  rw [h5, if_neg (by simp)]
  rw [h6, if_neg (by simp)]
  rw [h7, if_neg (by simp)]
  rw [h8, if_pos rfl]
theorem kind_9 {L : ByteArray} (h0 : (L.toList == [110, 111, 45, 115, 116, 111, 114, 101]) = false) (h1 : (L.toList == [110, 111, 45, 99, 97, 99, 104, 101]) = false) (h2 : (L.toList == [112, 114, 105, 118, 97, 116, 101]) = false) (h3 : (L.toList == [112, 117, 98, 108, 105, 99]) = false) (h4 : (L.toList == [109, 117, 115, 116, 45, 114, 101, 118, 97, 108, 105, 100, 97, 116, 101]) = false) (h5 : (L.toList == [112, 114, 111, 120, 121, 45, 114, 101, 118, 97, 108, 105, 100, 97, 116, 101]) = false) (h6 : (L.toList == [111, 110, 108, 121, 45, 105, 102, 45, 99, 97, 99, 104, 101, 100]) = false) (h7 : (L.toList == [109, 97, 120, 45, 97, 103, 101]) = false) (h8 : (L.toList == [115, 45, 109, 97, 120, 97, 103, 101]) = false) (h9 : (L.toList == [115, 116, 97, 108, 101, 45, 119, 104, 105, 108, 101, 45, 114, 101, 118, 97, 108, 105, 100, 97, 116, 101]) = true) : kindE L = 9 := by
  unfold kindE
  rw [h0, if_neg (by simp)]
  rw [h1, if_neg (by simp)]
  rw [h2, if_neg (by simp)]
  rw [h3, if_neg (by simp)]
  rw [h4, if_neg (by simp)]
  rw [h5, if_neg (by simp)]
  rw [h6, if_neg (by simp)]
  rw [h7, if_neg (by simp)]
  rw [h8, if_neg (by simp)]
  rw [h9, if_pos rfl]
theorem kind_10 {L : ByteArray} (h0 : (L.toList == [110, 111, 45, 115, 116, 111, 114, 101]) = false) (h1 : (L.toList == [110, 111, 45, 99, 97, 99, 104, 101]) = false) (h2 : (L.toList == [112, 114, 105, 118, 97, 116, 101]) = false) (h3 : (L.toList == [112, 117, 98, 108, 105, 99]) = false) (h4 : (L.toList == [109, 117, 115, 116, 45, 114, 101, 118, 97, 108, 105, 100, 97, 116, 101]) = false) (h5 : (L.toList == [112, 114, 111, 120, 121, 45, 114, 101, 118, 97, 108, 105, 100, 97, 116, 101]) = false) (h6 : (L.toList == [111, 110, 108, 121, 45, 105, 102, 45, 99, 97, 99, 104, 101, 100]) = false) (h7 : (L.toList == [109, 97, 120, 45, 97, 103, 101]) = false) (h8 : (L.toList == [115, 45, 109, 97, 120, 97, 103, 101]) = false) (h9 : (L.toList == [115, 116, 97, 108, 101, 45, 119, 104, 105, 108, 101, 45, 114, 101, 118, 97, 108, 105, 100, 97, 116, 101]) = false) (h10 : (L.toList == [115, 116, 97, 108, 101, 45, 105, 102, 45, 101, 114, 114, 111, 114]) = true) : kindE L = 10 := by
  unfold kindE
  rw [h0, if_neg (by simp)]
  rw [h1, if_neg (by simp)]
  rw [h2, if_neg (by simp)]
  rw [h3, if_neg (by simp)]
  rw [h4, if_neg (by simp)]
  rw [h5, if_neg (by simp)]
  rw [h6, if_neg (by simp)]
  rw [h7, if_neg (by simp)]
  rw [h8, if_neg (by simp)]
  rw [h9, if_neg (by simp)]
  rw [h10, if_pos rfl]
theorem kind_11 {L : ByteArray} (h0 : (L.toList == [110, 111, 45, 115, 116, 111, 114, 101]) = false) (h1 : (L.toList == [110, 111, 45, 99, 97, 99, 104, 101]) = false) (h2 : (L.toList == [112, 114, 105, 118, 97, 116, 101]) = false) (h3 : (L.toList == [112, 117, 98, 108, 105, 99]) = false) (h4 : (L.toList == [109, 117, 115, 116, 45, 114, 101, 118, 97, 108, 105, 100, 97, 116, 101]) = false) (h5 : (L.toList == [112, 114, 111, 120, 121, 45, 114, 101, 118, 97, 108, 105, 100, 97, 116, 101]) = false) (h6 : (L.toList == [111, 110, 108, 121, 45, 105, 102, 45, 99, 97, 99, 104, 101, 100]) = false) (h7 : (L.toList == [109, 97, 120, 45, 97, 103, 101]) = false) (h8 : (L.toList == [115, 45, 109, 97, 120, 97, 103, 101]) = false) (h9 : (L.toList == [115, 116, 97, 108, 101, 45, 119, 104, 105, 108, 101, 45, 114, 101, 118, 97, 108, 105, 100, 97, 116, 101]) = false) (h10 : (L.toList == [115, 116, 97, 108, 101, 45, 105, 102, 45, 101, 114, 114, 111, 114]) = false) (h11 : (L.toList == [109, 97, 120, 45, 115, 116, 97, 108, 101]) = true) : kindE L = 11 := by
  unfold kindE
  rw [h0, if_neg (by simp)]
  rw [h1, if_neg (by simp)]
  rw [h2, if_neg (by simp)]
  rw [h3, if_neg (by simp)]
  rw [h4, if_neg (by simp)]
  rw [h5, if_neg (by simp)]
  rw [h6, if_neg (by simp)]
  rw [h7, if_neg (by simp)]
  rw [h8, if_neg (by simp)]
  rw [h9, if_neg (by simp)]
  rw [h10, if_neg (by simp)]
  rw [h11, if_pos rfl]
theorem kind_12 {L : ByteArray} (h0 : (L.toList == [110, 111, 45, 115, 116, 111, 114, 101]) = false) (h1 : (L.toList == [110, 111, 45, 99, 97, 99, 104, 101]) = false) (h2 : (L.toList == [112, 114, 105, 118, 97, 116, 101]) = false) (h3 : (L.toList == [112, 117, 98, 108, 105, 99]) = false) (h4 : (L.toList == [109, 117, 115, 116, 45, 114, 101, 118, 97, 108, 105, 100, 97, 116, 101]) = false) (h5 : (L.toList == [112, 114, 111, 120, 121, 45, 114, 101, 118, 97, 108, 105, 100, 97, 116, 101]) = false) (h6 : (L.toList == [111, 110, 108, 121, 45, 105, 102, 45, 99, 97, 99, 104, 101, 100]) = false) (h7 : (L.toList == [109, 97, 120, 45, 97, 103, 101]) = false) (h8 : (L.toList == [115, 45, 109, 97, 120, 97, 103, 101]) = false) (h9 : (L.toList == [115, 116, 97, 108, 101, 45, 119, 104, 105, 108, 101, 45, 114, 101, 118, 97, 108, 105, 100, 97, 116, 101]) = false) (h10 : (L.toList == [115, 116, 97, 108, 101, 45, 105, 102, 45, 101, 114, 114, 111, 114]) = false) (h11 : (L.toList == [109, 97, 120, 45, 115, 116, 97, 108, 101]) = false) (h12 : (L.toList == [109, 105, 110, 45, 102, 114, 101, 115, 104]) = true) : kindE L = 12 := by
  unfold kindE
  rw [h0, if_neg (by simp)]
  rw [h1, if_neg (by simp)]
  rw [h2, if_neg (by simp)]
  rw [h3, if_neg (by simp)]
  rw [h4, if_neg (by simp)]
  rw [h5, if_neg (by simp)]
  rw [h6, if_neg (by simp)]
  rw [h7, if_neg (by simp)]
  rw [h8, if_neg (by simp)]
  rw [h9, if_neg (by simp)]
  rw [h10, if_neg (by simp)]
  rw [h11, if_neg (by simp)]
  rw [h12, if_pos rfl]
theorem kind_13 {L : ByteArray} (h0 : (L.toList == [110, 111, 45, 115, 116, 111, 114, 101]) = false) (h1 : (L.toList == [110, 111, 45, 99, 97, 99, 104, 101]) = false) (h2 : (L.toList == [112, 114, 105, 118, 97, 116, 101]) = false) (h3 : (L.toList == [112, 117, 98, 108, 105, 99]) = false) (h4 : (L.toList == [109, 117, 115, 116, 45, 114, 101, 118, 97, 108, 105, 100, 97, 116, 101]) = false) (h5 : (L.toList == [112, 114, 111, 120, 121, 45, 114, 101, 118, 97, 108, 105, 100, 97, 116, 101]) = false) (h6 : (L.toList == [111, 110, 108, 121, 45, 105, 102, 45, 99, 97, 99, 104, 101, 100]) = false) (h7 : (L.toList == [109, 97, 120, 45, 97, 103, 101]) = false) (h8 : (L.toList == [115, 45, 109, 97, 120, 97, 103, 101]) = false) (h9 : (L.toList == [115, 116, 97, 108, 101, 45, 119, 104, 105, 108, 101, 45, 114, 101, 118, 97, 108, 105, 100, 97, 116, 101]) = false) (h10 : (L.toList == [115, 116, 97, 108, 101, 45, 105, 102, 45, 101, 114, 114, 111, 114]) = false) (h11 : (L.toList == [109, 97, 120, 45, 115, 116, 97, 108, 101]) = false) (h12 : (L.toList == [109, 105, 110, 45, 102, 114, 101, 115, 104]) = false) : kindE L = 13 := by
  unfold kindE
  rw [h0, if_neg (by simp)]
  rw [h1, if_neg (by simp)]
  rw [h2, if_neg (by simp)]
  rw [h3, if_neg (by simp)]
  rw [h4, if_neg (by simp)]
  rw [h5, if_neg (by simp)]
  rw [h6, if_neg (by simp)]
  rw [h7, if_neg (by simp)]
  rw [h8, if_neg (by simp)]
  rw [h9, if_neg (by simp)]
  rw [h10, if_neg (by simp)]
  rw [h11, if_neg (by simp)]
  rw [h12, if_neg (by simp)]
end Go.Proofs.YtaebbnadmfbdjaaDoor
