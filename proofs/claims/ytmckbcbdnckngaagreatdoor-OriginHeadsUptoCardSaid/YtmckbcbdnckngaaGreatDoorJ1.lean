/- Walks of functions that the proof needs, and plain laws on what they compute. No condition beyond those that each one states. -/
import Derived.Below
import Derived.WalkKit
import Derived.WalkSpells
import Derived.WalkSmall
import Derived.WalkLawsBesides
import Derived.Lib.Hide
import Derived.Lib.Join
import Derived.Lib.SplitLaws
import Derived.Lib.IndexBytes
import Derived.Test.YtmckbcbdnckngaaGreatDoorRows
import Derived.Test.YtmckbcbdnckngaaGreatDoorShelf
import Derived.Shelf.Strings.SlTrimAscii
import Derived.Lib.ItoaNum
import Derived.Maps.AppendAt
import Derived.Laws.Rows
import Derived.Laws.Tables
import Derived.Deep.RegionHeld3
import Derived.Deep.QuietTactic
import Derived.BigQuiet
set_option maxHeartbeats 32000000
set_option maxRecDepth 100000
namespace Go.Proofs.YtmckbcbdnckngaaGreatDoor
open Go

theorem zi {p : Prop} (h : p) : RowKit.Hid p := Lib.hid h
section
variable {P : Program} {ops : Array Oper} {Q : Exit → Act → World → Prop} {md : Region.Mode} {S : World → Prop}
theorem zP : (∀ (a : Act) (i : Tmp) (v : Value), a.put (some i) v = { a with tmps := a.tmps.setIfInBounds i v }) ∧ (∀ (a : Act) (v : Value), a.put none v = a) ∧ (∀ (l : List Value) (i : Nat) (v : Value), l.toArray.setIfInBounds i v = (l.set i v).toArray) ∧
    (∀ (l : List Value) (x v : Value), (x :: l).set 0 v = v :: l) ∧ (∀ (l : List Value) (i : Nat) (x v : Value), (x :: l).set (i + 1) v = x :: l.set i v) :=
  ⟨fun _ _ _ => rfl, fun _ _ => rfl, fun l i v => List.setIfInBounds_toArray l i v, fun _ _ _ => rfl, fun _ _ _ _ => rfl⟩
theorem zH (i : Nat) (d : Option Tmp) {op : Op} {ty : TypeId} {ps : String} {af : Array Edge} {g : Option (Nat × Bool)} {v : Value} {fuel : Nat} {listed : Array Bool} {a : Act} {w : World} (hi : ops[i]? = some ⟨d, op, ty, ps, af, g⟩)
    (hy : ∀ w, S w → (execOp a.eval ⟨d, op, ty, ps, af, g⟩).run P w = .ok (.value v) w)
    (h : wpAnyH P md ops Q S fuel (listed.setIfInBounds i true) (a.put d v) w)
    (hs : Region.noSelect ops = true := by kernel_rfl) (hf : Region.free md ops listed i = true := by kernel_rfl) (hr : (Region.ready md ops listed).contains i = true := by kernel_rfl)
    (hQ : ∀ c a w, Q (.panic c) (a.put d v) w → Q (.panic c) a w := by exact fun _ _ _ h => h) (hw : Region.wanted ⟨d, op, ty, ps, af, g⟩ (yielded ops a.tmps) = true := by rfl) (hS : S w := by assumption) : wpAnyH P md ops Q S (fuel + 1) listed a w :=
  wpAnyH_take hi hs hf hr hQ (.inl ⟨hw, hy⟩) hS h
end
end Go.Proofs.YtmckbcbdnckngaaGreatDoor
set_option linter.unusedSimpArgs false
set_option linter.unusedVariables false
namespace Go.Proofs.YtmckbcbdnckngaaGreatDoor
open Go.RowKit

def Ext (w w' : World) : Prop := Below w.heap.size w w'
theorem Ext.below {w w' : World} (h : Ext w w') : Below w.heap.size w w' := h
theorem Ext.refl (w : World) : Ext w w := Below.refl _ _
theorem Ext.size {w w' : World} (h : Ext w w') : w.heap.size ≤ w'.heap.size := h.below.size
theorem Ext.trans {a b c : World} (h : Ext a b) (k : Ext b c) : Ext a c := h.below.trans (k.below.mono h.size)
theorem Ext.alloc {a w : World} (h : Ext a w) (o : Obj) : Ext a (w.alloc o) := h.below.alloc h.size o
theorem Ext.drew {a w : World} (h : Ext a w) : Ext a w.drew := h.below.drew
theorem Ext.drewN {a w : World} (h : Ext a w) (n : Nat) : Ext a (w.drewN n) := below_drewN h.below n
theorem Ext.setCell {a w : World} (h : Ext a w) {p : Addr} (hp : a.heap.size ≤ p.block) (u : Value) : Ext a (w.setCell p u) := h.below.setCell hp u
theorem Ext.grown {a w w' : World} {row : Option Nat} (h : Ext a w) (hg : w.grownBy w' row) (hr : ∀ k, row = some k → a.heap.size ≤ k) : Ext a w' := h.below.grown hg h.size hr
theorem Ext.cells {w w' : World} (h : Ext w w') : ∀ b o, b < w.heap.size → w'.cell? ⟨b, o, none⟩ = w.cell? ⟨b, o, none⟩ := fun b o hb => h.below.cell (p := ⟨b, o, none⟩) hb
theorem Ext.frozens {w w' : World} (h : Ext w w') : ∀ b o, b < w.heap.size → w'.frozen? ⟨b, o, none⟩ = w.frozen? ⟨b, o, none⟩ := fun b o hb => h.below.frozen (p := ⟨b, o, none⟩) hb
theorem Ext.cell {w w' : World} (hb : Ext w w') {p : Addr} {u : Value} (h : w.cell? p = some u) : w'.cell? p = some u :=
 (hb.below.cell (World.block_lt_of_cell? w p h)).trans h

def Rd (w : World) (k : Nat) (A : Option Addr) (n : Nat) (xs : List Value) : Prop :=
 xs.length = n * k ∧ (0 < xs.length → ∃ b o, A = some ⟨b, o, none⟩ ∧ ∀ j u, xs[j]? = some u → w.cell? ⟨b, o + j, none⟩ = some u)

theorem add_plain (b o j : Nat) : (⟨b, o, none⟩ : Addr).add j = ⟨b, o + j, none⟩ := by unfold Addr.add; split <;> simp_all

theorem Rd.none_ (w : World) (k : Nat) (A : Option Addr) : Rd w k A 0 [] := ⟨by simp, fun h => absurd h (by simp)⟩
theorem Rd.keep {w w' : World} {k n : Nat} {A : Option Addr} {xs : List Value} (h : Rd w k A n xs)
  (hk : ∀ p u, w.cell? p = some u → w'.cell? p = some u) : Rd w' k A n xs :=
 ⟨h.1, fun hn => by
  obtain ⟨b, o, e, hc⟩ := h.2 hn
  exact ⟨b, o, e, fun j u hu => hk _ _ (hc j u hu)⟩⟩
theorem Rd.ext {w w' : World} {k n : Nat} {A : Option Addr} {xs : List Value} (h : Rd w k A n xs) (hb : Ext w w') : Rd w' k A n xs :=
 h.keep fun _ _ => hb.cell
theorem Rd.alloc {w : World} {k n : Nat} {A : Option Addr} {xs : List Value} (h : Rd w k A n xs) (o : Obj) : Rd (w.alloc o) k A n xs :=
 h.ext ((Ext.refl _).alloc o)
theorem Rd.drew {w : World} {k n : Nat} {A : Option Addr} {xs : List Value} (h : Rd w k A n xs) : Rd w.drew k A n xs := h
theorem Rd.at_ {w : World} {k n : Nat} {A : Option Addr} {xs : List Value} (h : Rd w k A n xs) (hn : 0 < xs.length) :
  ∃ b o, A = some ⟨b, o, none⟩ ∧ ∀ j u, xs[j]? = some u → w.cell? ⟨b, o + j, none⟩ = some u := h.2 hn
theorem Rd.of_own {w : World} {base k n : Nat} {e : TypeId} {A : Option Addr} {c : Nat} {xs : List Value} (h : w.ownsRow base e k (.slice A n c) n xs) : Rd w k A n xs := by
 refine ⟨h.1, fun hn => ?_⟩
 rcases h.2 with ⟨hv, h0⟩ | ⟨g, cap, cur, hv, rest⟩
 ·have := h.1; subst h0; simp at this; subst this; simp at hn
 ·have hA : A = some ⟨g, 0, none⟩ := by injection hv
  subst hA
  refine ⟨g, 0, rfl, fun j u hu => ?_⟩
  rw [← add_plain]
  exact h.cells (g := g) rfl j u hu
theorem Rd.take {w : World} {k n : Nat} {A : Option Addr} {xs : List Value} (h : Rd w k A n xs) {i : Nat} (hi : i ≤ n) : Rd w k A i (xs.take (i * k)) := by
 have hle : i * k ≤ n * k := Nat.mul_le_mul_right _ hi
 have hl : (xs.take (i * k)).length = i * k := by rw [List.length_take, h.1]; omega
 refine ⟨hl, fun hp => ?_⟩
 obtain ⟨b, o, e, hc⟩ := h.2 (by rw [h.1]; omega)
 refine ⟨b, o, e, fun j u hu => hc j u ?_⟩
 rw [List.getElem?_take] at hu
 split at hu
 ·exact hu
 ·cases hu
theorem Rd.drop {w : World} {k n cap : Nat} {A : Option Addr} {xs : List Value} (h : Rd w k A n xs) {i : Nat} (hi : i ≤ n) (hc : n ≤ cap) :
  Rd w k (if cap = i then A else A.map (·.add (i * k))) (n - i) (xs.drop (i * k)) := by
 have hl : (xs.drop (i * k)).length = (n - i) * k := by rw [List.length_drop, h.1, Nat.sub_mul]
 refine ⟨hl, fun hp => ?_⟩
 have hlt : i < n := by
  rcases Nat.lt_or_ge i n with h1 | h1
  ·exact h1
  ·rw [hl, show n - i = 0 by omega] at hp; simp at hp
 obtain ⟨b, o, rfl, hcell⟩ := h.2 (by rw [List.length_drop] at hp; omega)
 rw [if_neg (by omega)]
 refine ⟨b, o + i * k, by simp [add_plain], fun j u hu => ?_⟩
 rw [List.getElem?_drop] at hu
 rw [Nat.add_assoc]
 exact hcell _ u hu
theorem Rd.clip {w : World} {k n : Nat} {A : Option Addr} {xs : List Value} (h : Rd w k A n xs) : Rd w k (if n = 0 then A else A.map (·.add (0 * k))) n xs := by
 split
 ·exact h
 ·refine ⟨h.1, fun hp => ?_⟩
  obtain ⟨b, o, rfl, hc⟩ := h.2 hp
  exact ⟨b, o, by simp [Addr.add], hc⟩
theorem Rd.one (w : World) (u : Value) (e : TypeId) {b : Nat} (hb : b = w.heap.size) : Rd (w.alloc (.cells #[u] e)) 1 (some ⟨b, 0, none⟩) 1 [u] :=
 ⟨rfl, fun _ => ⟨_, _, rfl, fun j v hj => by rw [hb, ← add_plain]; exact cell_one_new _ _ _ j v hj⟩⟩
theorem Rd.two (w : World) (u v : Value) (e : TypeId) {b : Nat} (hb : b = w.heap.size) : Rd (w.alloc (.cells #[u, v] e)) 2 (some ⟨b, 0, none⟩) 1 [u, v] :=
 ⟨rfl, fun _ => ⟨_, _, rfl, fun j x hj => by rw [hb, ← add_plain]; exact cell_two_new _ _ _ _ j x hj⟩⟩

theorem Rd.lit (w : World) (cs : Array Value) (e : TypeId) {b : Nat} (hb : b = w.heap.size) (k n : Nat) (h : cs.size = n * k) : Rd (w.alloc (.cells cs e)) k (some ⟨b, 0, none⟩) n cs.toList :=
 ⟨by simpa using h, fun _ => ⟨_, _, rfl, fun j u hj => by
  rw [hb, Nat.zero_add, World.cell?_alloc_mark]
  simpa using hj⟩⟩

theorem own_shape {w : World} {base e k n : Nat} {v : Value} {xs : List Value} (h : w.ownsRow base e k v n xs) :
  ∃ A c, v = .slice A n c ∧ n ≤ c := by
 rcases h.2 with ⟨rfl, rfl⟩ | ⟨g, cap, cur, rfl, _, _, hle, _⟩
 ·exact ⟨_, _, rfl, Nat.le_refl _⟩
 ·exact ⟨_, _, rfl, hle⟩

theorem own_ext {w w' : World} {base e k n : Nat} {v : Value} {xs : List Value} (h : w.ownsRow base e k v n xs) (hb : Ext w w') : w'.ownsRow base e k v n xs := by
 refine ⟨h.1, ?_⟩
 rcases h.2 with hn | ⟨g, cap, cur, rfl, hbb, hgg, rest⟩
 ·exact .inl hn
 ·refine .inr ⟨g, cap, cur, rfl, hbb, ?_, rest⟩
  rw [hb.below.block g (Array.getElem?_eq_some_iff.1 hgg).1]
  exact hgg
theorem own_base {w : World} {base base' e k n : Nat} {v : Value} {xs : List Value} (h : w.ownsRow base e k v n xs) (hb : base' ≤ base) : w.ownsRow base' e k v n xs := by
 refine ⟨h.1, ?_⟩
 rcases h.2 with hn | ⟨g, cap, cur, rfl, hbb, rest⟩
 ·exact .inl hn
 ·exact .inr ⟨g, cap, cur, rfl, Nat.le_trans hb hbb, rest⟩

section
variable {P : Program} (w : World)

theorem run_app (base : Nat) (t ty e : TypeId) (z : Value) (size bytes : Nat) (ht : P.underlying t = some (.slice e))
  (hinfo : (P.info? e).map (fun i => (i.zero, i.size, i.bytes)) = some (some z, size, bytes)) (hzs : z.cells.size = size) (hsz : 0 < size)
  (v : Value) (n : Nat) (xs : List Value) (hown : w.ownsRow base e size v n xs)
  (A : Option Addr) (m c : Nat) (news : List Value) (hr : Rd w size A m news) (h1 : ∀ u ∈ news, u.oneCell' = true)
  (h63 : n + m ≤ maxLen) (hbytes : (n + m) * bytes ≤ 140737488355328) (hbase : base ≤ w.heap.size) :
  ∃ v' w', (Builtin.append_ #[t, t] ty #[v, .slice A m c]).run P w = .ok v' w' ∧ w'.ownsRow base e size v' (n + m) (xs ++ news) ∧ w.grownBy w' v.ownBlock := by
 obtain ⟨i, hi, hz, hsize, hby⟩ := info_parts hinfo
 by_cases hnn : 0 < news.length
 ·obtain ⟨b, o, rfl, hc⟩ := hr.2 hnn
  obtain ⟨v', w', hrun, h2, h3, _⟩ := run_append_own (P := P) w base t ty e i z size bytes ht hi hz hsize hby hzs hsz v n xs hown ⟨b, o, none⟩ m c news hr.1 (fun j u hu => by rw [add_plain]; exact hc j u hu) h1 h63 hbytes hbase
  exact ⟨v', w', hrun, h2, h3⟩
 ·have hn0 : news = [] := List.eq_nil_of_length_eq_zero (by omega)
  subst hn0
  have hm : m = 0 := by
   rcases Nat.eq_zero_or_pos m with h | h
   ·exact h
   ·have h1 := hr.1
    have h2 := Nat.mul_pos h hsz
    rw [List.length_nil] at h1
    omega
  subst hm
  rcases A with _ | ad
  ·refine ⟨v, w, ?_, by simpa using hown, World.grownBy.refl w _⟩
   rcases hown.2 with ⟨rfl, rfl⟩ | ⟨g, cap, cur, rfl, _, _, hnc, _⟩
   ·simp [Builtin.append_, run_underlying ht, sizeOf, typeInfo, hi, Builtin.lenOf, Builtin.firstCells]
   ·simp [Builtin.append_, run_underlying ht, sizeOf, typeInfo, hi, Builtin.lenOf, Builtin.firstCells, hnc, storeCells]
  ·obtain ⟨v', w', hrun, h2, h3, _⟩ := run_append_own (P := P) w base t ty e i z size bytes ht hi hz hsize hby hzs hsz v n xs hown ad 0 c [] (by simp) (fun j u hu => by simp at hu) h1 h63 hbytes hbase
   exact ⟨v', w', hrun, h2, h3⟩

theorem wp_app {o : Oper} {a : Act} {K : Act → World → Prop} {Q : Exit → Act → World → Prop} (s x : Operand) (t : TypeId)
  (ho : o.op = .call { callee := .builtin .append, args := #[s, x], argTypes := #[t, t] })
  (w0 : World) (e : TypeId) (z : Value) (size bytes : Nat) (ht : P.underlying t = some (.slice e))
  (hinfo : (P.info? e).map (fun i => (i.zero, i.size, i.bytes)) = some (some z, size, bytes)) (hzs : z.cells.size = size) (hsz : 0 < size)
  (v : Value) (n : Nat) (xs : List Value) (hs : a.eval s = v) (hown : w.ownsRow w0.heap.size e size v n xs)
  (A : Option Addr) (m c : Nat) (news : List Value) (hx : a.eval x = .slice A m c) (hr : Rd w size A m news) (h1 : ∀ u ∈ news, u.oneCell' = true)
  (hb : Ext w0 w) (hbytes : (n + m) * bytes ≤ 140737488355328) (hby0 : 0 < bytes)
  (h : ∀ A' c' w', w'.ownsRow w0.heap.size e size (.slice A' (n + m) c') (n + m) (xs ++ news) → Ext w0 w' → n + m ≤ c' → K (a.put o.dst (.slice A' (n + m) c')) w') : o.wp P a w K Q := by
 have h63 : n + m ≤ maxLen := by
  have : (n + m) * 1 ≤ (n + m) * bytes := Nat.mul_le_mul_left _ hby0
  simp only [maxLen]; omega
 obtain ⟨v', w', hrun, h2, h3⟩ := run_app (P := P) w w0.heap.size t o.type e z size bytes ht hinfo hzs hsz v n xs hown A m c news hr h1 h63 hbytes hb.size
 obtain ⟨A', c', rfl, hle⟩ := own_shape h2
 unfold Oper.wp execOp
 simp only [ho, resolve, invoke, builtin, Sem.run_bind, Sem.run_pure, Result.andThen_ok, List.map_toArray, List.map_cons, List.map_nil, hs, hx, hrun]
 exact h A' c' w' h2 (hb.grown h3 (fun k hk => (hown.lt k hk).1)) hle

theorem wpList_app {ops : Array Oper} {rest : List Oper} {o : Oper} {a : Act} {Q : Exit → Act → World → Prop} (hgd : o.guard = none) (s x : Operand) (t : TypeId)
  (ho : o.op = .call { callee := .builtin .append, args := #[s, x], argTypes := #[t, t] })
  (w0 : World) (e : TypeId) (z : Value) (size bytes : Nat) (ht : P.underlying t = some (.slice e))
  (hinfo : (P.info? e).map (fun i => (i.zero, i.size, i.bytes)) = some (some z, size, bytes)) (hzs : z.cells.size = size) (hsz : 0 < size)
  (v : Value) (n : Nat) (xs : List Value) (hs : a.eval s = v) (hown : w.ownsRow w0.heap.size e size v n xs)
  (A : Option Addr) (m c : Nat) (news : List Value) (hx : a.eval x = .slice A m c) (hr : Rd w size A m news) (h1 : ∀ u ∈ news, u.oneCell' = true)
  (hb : Ext w0 w) (hbytes : (n + m) * bytes ≤ 140737488355328) (hby0 : 0 < bytes)
  (h : ∀ A' c' w', w'.ownsRow w0.heap.size e size (.slice A' (n + m) c') (n + m) (xs ++ news) → Ext w0 w' → n + m ≤ c' → wpList P ops Q rest (a.put o.dst (.slice A' (n + m) c')) w') : wpList P ops Q (o :: rest) a w :=
 wpList_plain hgd fun _ hK => wp_app w s x t ho w0 e z size bytes ht hinfo hzs hsz v n xs hs hown A m c news hx hr h1 hb hbytes hby0 fun A' c' w' p q r => hK _ _ (h A' c' w' p q r)

theorem step_app {ops : Array Oper} {o : Oper} {a : Act} {K : Act → World → Prop} {Q : Exit → Act → World → Prop} {E : Prop} (hgd : o.guard = none) (s x : Operand) (t : TypeId)
  (ho : o.op = .call { callee := .builtin .append, args := #[s, x], argTypes := #[t, t] })
  (w0 : World) (e : TypeId) (z : Value) (size bytes : Nat) (ht : P.underlying t = some (.slice e))
  (hinfo : (P.info? e).map (fun i => (i.zero, i.size, i.bytes)) = some (some z, size, bytes)) (hzs : z.cells.size = size) (hsz : 0 < size)
  (v : Value) (n : Nat) (xs : List Value) (hs : a.eval s = v) (hown : w.ownsRow w0.heap.size e size v n xs)
  (A : Option Addr) (m c : Nat) (news : List Value) (hx : a.eval x = .slice A m c) (hr : Rd w size A m news) (h1 : ∀ u ∈ news, u.oneCell' = true)
  (hb : Ext w0 w) (hbytes : (n + m) * bytes ≤ 140737488355328) (hby0 : 0 < bytes)
  (h : ∀ A' c' w', w'.ownsRow w0.heap.size e size (.slice A' (n + m) c') (n + m) (xs ++ news) → Ext w0 w' → n + m ≤ c' → K (a.put o.dst (.slice A' (n + m) c')) w') :
  if Region.wanted o (yielded ops a.tmps) = true then Oper.wp P o a w K Q else E := by
 rw [if_pos (by simp [Region.wanted, hgd])]
 exact wp_app w s x t ho w0 e z size bytes ht hinfo hzs hsz v n xs hs hown A m c news hx hr h1 hb hbytes hby0 h
end

section
variable {P : Program} (w : World)

end

abbrev strCells (l : List ByteArray) : List Value := l.map Value.string
def fldCells (l : List (ByteArray × ByteArray)) : List Value := l.flatMap fun f => [.string f.1, .string f.2]

theorem strCells_one (l : List ByteArray) : ∀ u ∈ strCells l, u.oneCell' = true := by
 intro u hu; simp at hu; obtain ⟨s, _, rfl⟩ := hu; rfl
theorem fldCells_one (l : List (ByteArray × ByteArray)) : ∀ u ∈ fldCells l, u.oneCell' = true := by
 intro u hu; simp [fldCells] at hu; obtain ⟨a, b, _, h | h⟩ := hu <;> subst h <;> rfl
theorem fldCells_len (l : List (ByteArray × ByteArray)) : (fldCells l).length = l.length * 2 := by
 induction l with
 | nil => rfl
 | cons x l ih => simp only [fldCells, List.flatMap_cons, List.length_append, List.length_cons, List.length_nil] at *; omega
theorem fldCells_at0 : ∀ (l : List (ByteArray × ByteArray)) (k : Nat) (h : k < l.length), (fldCells l)[k * 2]? = some (.string l[k].1)
 | x :: l, 0, _ => rfl
 | x :: l, k + 1, h => by
  have := fldCells_at0 l k (by simpa using h)
  simp only [fldCells, List.flatMap_cons] at *
  rw [show (k + 1) * 2 = k * 2 + 2 by omega]
  simpa using this
theorem fldCells_at1 : ∀ (l : List (ByteArray × ByteArray)) (k : Nat) (h : k < l.length), (fldCells l)[k * 2 + 1]? = some (.string l[k].2)
 | x :: l, 0, _ => rfl
 | x :: l, k + 1, h => by
  have := fldCells_at1 l k (by simpa using h)
  simp only [fldCells, List.flatMap_cons] at *
  rw [show (k + 1) * 2 + 1 = k * 2 + 1 + 2 by omega]
  simpa using this
theorem fldCells_app (l m : List (ByteArray × ByteArray)) : fldCells (l ++ m) = fldCells l ++ fldCells m := by simp [fldCells]

abbrev RdS (w : World) (A : Option Addr) (n : Nat) (ss : List ByteArray) : Prop := Rd w 1 A n (strCells ss)
abbrev RdF (w : World) (A : Option Addr) (n : Nat) (fs : List (ByteArray × ByteArray)) : Prop := Rd w 2 A n (fldCells fs)

theorem Rd.lenS {w : World} {A : Option Addr} {n : Nat} {ss : List ByteArray} (h : RdS w A n ss) : ss.length = n := by have := h.1; simp at this; exact this
theorem Rd.lenF {w : World} {A : Option Addr} {n : Nat} {fs : List (ByteArray × ByteArray)} (h : RdF w A n fs) : fs.length = n := by have := h.1; rw [fldCells_len] at this; omega
theorem Rd.atS {w : World} {A : Option Addr} {n : Nat} {ss : List ByteArray} (h : RdS w A n ss) {k : Nat} (hk : k < ss.length) :
  ∃ b o, A = some ⟨b, o, none⟩ ∧ w.cell? ⟨b, o + k, none⟩ = some (.string ss[k]) := by
 obtain ⟨b, o, e, hc⟩ := h.2 (by simp; omega)
 exact ⟨b, o, e, hc k _ (by simp [List.getElem?_eq_getElem hk])⟩
theorem Rd.atF {w : World} {A : Option Addr} {n : Nat} {fs : List (ByteArray × ByteArray)} (h : RdF w A n fs) {k : Nat} (hk : k < fs.length) :
  ∃ b o, A = some ⟨b, o, none⟩ ∧ w.cell? ⟨b, o + k * 2, none⟩ = some (.string fs[k].1) ∧ w.cell? ⟨b, o + k * 2 + 1, none⟩ = some (.string fs[k].2) := by
 obtain ⟨b, o, e, hc⟩ := h.2 (by rw [fldCells_len]; omega)
 exact ⟨b, o, e, hc _ _ (fldCells_at0 _ _ hk), hc _ _ (fldCells_at1 _ _ hk)⟩
end Go.Proofs.YtmckbcbdnckngaaGreatDoor

namespace Go.Proofs.YtmckbcbdnckngaaGreatDoor

def lowC (c : UInt8) : UInt8 := if 65 ≤ c && c ≤ 90 then c + 32 else c
def lowL (l : List UInt8) : List UInt8 := l.map lowC
def lowS (s : ByteArray) : ByteArray := ⟨(lowL s.data.toList).toArray⟩
def lowAt (s : ByteArray) (k j : Nat) : Int := if j < k then (lowC (s.data.toList.getD j 0)).toNat else (s.data.toList.getD j 0).toNat

theorem lowS_size (s : ByteArray) : (lowS s).size = s.size := by
 show (s.data.toList.map lowC).toArray.size = s.data.size
 simp

theorem lowAt_zero (s : ByteArray) (j : Nat) (h : j < s.data.toList.length) : lowAt s 0 j = (s.data.toList[j].toNat : Int) := by
 simp [lowAt, List.getD_eq_getElem?_getD, List.getElem?_eq_getElem h]
theorem lowAt_self (s : ByteArray) (k : Nat) : lowAt s k k = (s.data.toList.getD k 0).toNat := by simp [lowAt]
theorem lowAt_same (s : ByteArray) (k j : Nat) (h : j ≠ k) : lowAt s (k + 1) j = lowAt s k j := by
 unfold lowAt
 by_cases h1 : j < k
 ·rw [if_pos h1, if_pos (by omega)]
 ·rw [if_neg h1, if_neg (by omega)]
theorem lowAt_next (s : ByteArray) (k : Nat) : lowAt s (k + 1) k = (lowC (s.data.toList.getD k 0)).toNat := by simp [lowAt]
theorem lowAt_end (s : ByteArray) (k j : Nat) (h : j < k) (hj : j < (lowL s.data.toList).length) : lowAt s k j = ((lowL s.data.toList)[j].toNat : Int) := by
 have hj' : j < s.data.toList.length := by simpa [lowL] using hj
 rw [lowAt, if_pos h, List.getD_eq_getElem?_getD, List.getElem?_eq_getElem hj']
 simp [lowL]
theorem lowC_yes (c : UInt8) (h1 : (65 : Int) ≤ c.toNat) (h2 : (c.toNat : Int) ≤ 90) : ((lowC c).toNat : Int) = c.toNat + 32 := by
 have h : (65 ≤ c && c ≤ 90) = true := by simp [UInt8.le_iff_toNat_le]; omega
 rw [lowC, if_pos h, UInt8.toNat_add]
 simp
 omega
theorem lowC_no (c : UInt8) (h : ¬ ((65 : Int) ≤ c.toNat ∧ (c.toNat : Int) ≤ 90)) : lowC c = c := by
 have h : ¬ (65 ≤ c && c ≤ 90) = true := by simp [UInt8.le_iff_toNat_le]; omega
 rw [lowC, if_neg h]

theorem bytes_ext {a b : ByteArray} (h : a.data.toList = b.data.toList) : a = b := by
 obtain ⟨⟨a⟩⟩ := a; obtain ⟨⟨b⟩⟩ := b; simp at h; subst h; rfl
theorem eqS_iff {a b : ByteArray} : (a.toList == b.toList) = true ↔ a = b := by
 rw [beq_iff_eq, ByteArray.toList_eq, ByteArray.toList_eq]
 exact ⟨bytes_ext, fun h => by rw [h]⟩
theorem data_append (a b : ByteArray) : (a ++ b).data.toList = a.data.toList ++ b.data.toList := by simp
abbrev Fd := ByteArray × ByteArray
def isN (name : ByteArray) (f : Fd) : Bool := (lowS f.1).toList == (lowS name).toList
def allS (fs : List Fd) (name : ByteArray) : List ByteArray := (fs.filter (isN name)).map (·.2)

theorem take_step {α : Type} (l : List α) (k : Nat) (h : k < l.length) : l.take (k + 1) = l.take k ++ [l[k]] := by
 rw [List.take_succ_eq_append_getElem h]
theorem fm_yes {α β : Type} (p : α → Bool) (g : α → β) {l : List α} {k : Nat} (h : k < l.length) (hy : p l[k] = true) : ((l.take (k + 1)).filter p).map g = ((l.take k).filter p).map g ++ [g l[k]] := by
 rw [take_step l k h, List.filter_append, List.map_append, List.filter_cons, if_pos hy]; rfl
theorem fm_no {α β : Type} (p : α → Bool) (g : α → β) {l : List α} {k : Nat} (h : k < l.length) (hy : p l[k] = false) : ((l.take (k + 1)).filter p).map g = ((l.take k).filter p).map g := by
 rw [take_step l k h, List.filter_append, List.map_append, List.filter_cons, if_neg (by simp [hy])]; simp
theorem allS_yes {fs : List Fd} {name : ByteArray} {k : Nat} (h : k < fs.length) (hy : isN name fs[k] = true) : allS (fs.take (k + 1)) name = allS (fs.take k) name ++ [fs[k].2] := fm_yes _ _ h hy
theorem allS_no {fs : List Fd} {name : ByteArray} {k : Nat} (h : k < fs.length) (hy : isN name fs[k] = false) : allS (fs.take (k + 1)) name = allS (fs.take k) name := fm_no _ _ h hy
theorem allS_len (fs : List Fd) (name : ByteArray) (k : Nat) : (allS (fs.take k) name).length ≤ k := by
 unfold allS
 rw [List.length_map]
 exact Nat.le_trans (List.length_filter_le _ _) (by simp; omega)

def sumF (fs : List Fd) : Nat := (fs.map fun f => f.1.size + f.2.size).sum
theorem sumF_step {fs : List Fd} {k : Nat} (h : k < fs.length) : sumF (fs.take (k + 1)) = sumF (fs.take k) + (fs[k].1.size + fs[k].2.size) := by
 rw [take_step fs k h, sumF, List.map_append, List.sum_append]; simp [sumF]
def Bsz (B : Nat) (fs : List Fd) : Prop := ∀ f ∈ fs, f.1.size ≤ B ∧ f.2.size ≤ B
theorem Bsz.take {B : Nat} {fs : List Fd} (h : Bsz B fs) (k : Nat) : Bsz B (fs.take k) := fun f hf => h f (List.mem_of_mem_take hf)
theorem Bsz.at_ {B : Nat} {fs : List Fd} (h : Bsz B fs) {k : Nat} (hk : k < fs.length) : fs[k].1.size ≤ B ∧ fs[k].2.size ≤ B := h _ (List.getElem_mem hk)
theorem Bsz.mono {B B' : Nat} {fs : List Fd} (h : Bsz B fs) (hb : B ≤ B') : Bsz B' fs := fun f hf => ⟨Nat.le_trans (h f hf).1 hb, Nat.le_trans (h f hf).2 hb⟩
theorem take_eq_step {α : Type} {xs ys : List α} {k : Nat} (h1 : k < xs.length) (h2 : k < ys.length) (h : xs.take k = ys.take k) (he : xs[k] = ys[k]) : xs.take (k + 1) = ys.take (k + 1) := by
 rw [take_step xs k h1, take_step ys k h2, h, he]
theorem ne_of_at {α : Type} {xs ys : List α} {k : Nat} (h1 : k < xs.length) (h2 : k < ys.length) (he : xs[k] ≠ ys[k]) : xs ≠ ys := by
 intro h; subst h; exact he rfl

def joinS (l : List ByteArray) : ByteArray := ⟨(Lib.join (l.map (·.data.toList)) [44, 32]).toArray⟩
def totS (l : List ByteArray) : Nat := (l.map (·.size)).sum
theorem joinL_len (l : List ByteArray) : (Lib.join (l.map (·.data.toList)) [44, 32]).length ≤ totS l + 2 * l.length := by
 cases l with
 | nil => simp [Lib.join_nil]
 | cons x r =>
  simp only [List.map_cons]
  rw [Lib.join_length]
  have : Lib.lens (x.data.toList :: r.map (·.data.toList)) = totS (x :: r) := by
   simp only [Lib.lens, totS, List.map_cons, List.map_map]
   rfl
  rw [this]
  simp; omega
theorem joinS_size (l : List ByteArray) : (joinS l).size ≤ totS l + 2 * l.length := by
 have := joinL_len l
 show (Lib.join (l.map (·.data.toList)) [44, 32]).toArray.size ≤ _
 simpa using this
theorem joinS_one (x : ByteArray) : joinS [x] = x := by
 apply bytes_ext; simp [joinS, Lib.join_one]
theorem totS_all (fs : List Fd) (name : ByteArray) : totS (allS fs name) + 2 * (allS fs name).length ≤ sumF fs + 2 * fs.length := by
 induction fs with
 | nil => simp [allS, totS, sumF]
 | cons x l ih =>
  by_cases hy : isN name x = true
  ·simp only [allS, totS, sumF, List.filter_cons, hy, if_true, List.map_cons, List.sum_cons, List.length_cons] at *; omega
  ·simp only [allS, totS, sumF, List.filter_cons, hy, List.map_cons, List.sum_cons, List.length_cons] at *
   simp only [Bool.false_eq_true, if_false] at *
   omega

def remS (fs : List Fd) (name : ByteArray) : List Fd := fs.filter fun f => !isN name f
def setS (name value : ByteArray) : List Fd → List Fd
 | [] => [(lowS name, value)]
 | f :: r => if isN name f then (lowS name, value) :: remS r name else f :: setS name value r
theorem ft_yes {α : Type} (p : α → Bool) {l : List α} {k : Nat} (h : k < l.length) (hy : p l[k] = true) : (l.take (k + 1)).filter p = (l.take k).filter p ++ [l[k]] := by
 rw [take_step l k h, List.filter_append, List.filter_cons, if_pos hy]; rfl
theorem ft_no {α : Type} (p : α → Bool) {l : List α} {k : Nat} (h : k < l.length) (hy : p l[k] = false) : (l.take (k + 1)).filter p = (l.take k).filter p := by
 rw [take_step l k h, List.filter_append, List.filter_cons, if_neg (by simp [hy])]; simp
theorem remS_keep {fs : List Fd} {name : ByteArray} {k : Nat} (h : k < fs.length) (hy : isN name fs[k] = false) : remS (fs.take (k + 1)) name = remS (fs.take k) name ++ [fs[k]] := ft_yes _ h (by simp [hy])
theorem remS_drop {fs : List Fd} {name : ByteArray} {k : Nat} (h : k < fs.length) (hy : isN name fs[k] = true) : remS (fs.take (k + 1)) name = remS (fs.take k) name := ft_no _ h (by simp [hy])
theorem remS_len (fs : List Fd) (name : ByteArray) (k : Nat) : (remS (fs.take k) name).length ≤ k :=
 Nat.le_trans (List.length_filter_le _ _) (by simp; omega)
theorem remS_le (fs : List Fd) (name : ByteArray) : (remS fs name).length ≤ fs.length := List.length_filter_le _ _
def hasTo (fs : List Fd) (name : ByteArray) (k : Nat) : Bool := (fs.take k).any (isN name)
theorem hasTo_step {fs : List Fd} {name : ByteArray} {k : Nat} (h : k < fs.length) : hasTo fs name (k + 1) = (hasTo fs name k || isN name fs[k]) := by
 unfold hasTo; rw [take_step fs k h, List.any_append]; simp
def setTo (fs : List Fd) (name value : ByteArray) (k : Nat) : List Fd := if hasTo fs name k then setS name value (fs.take k) else fs.take k
theorem setS_not {name value : ByteArray} : ∀ {fs : List Fd}, fs.any (isN name) = false → setS name value fs = fs ++ [(lowS name, value)]
 | [], _ => rfl
 | f :: r, h => by
  simp only [List.any_cons, Bool.or_eq_false_iff] at h
  rw [setS, h.1, if_neg (by simp), setS_not h.2]; rfl
theorem setS_app {name value : ByteArray} : ∀ {fs gs : List Fd}, fs.any (isN name) = true → setS name value (fs ++ gs) = setS name value fs ++ remS gs name
 | [], _, h => by simp at h
 | f :: r, gs, h => by
  by_cases hf : isN name f = true
  ·rw [List.cons_append, setS, setS, if_pos hf, if_pos hf]; simp [remS]
  ·have hf' : isN name f = false := by simpa using hf
   rw [List.any_cons, hf', Bool.false_or] at h
   rw [List.cons_append, setS, setS, if_neg hf, if_neg hf, setS_app h]; rfl
theorem setS_first {name value : ByteArray} {fs gs : List Fd} {f : Fd} (h : fs.any (isN name) = false) (hf : isN name f = true) : setS name value (fs ++ f :: gs) = fs ++ (lowS name, value) :: remS gs name := by
 induction fs with
 | nil => rw [List.nil_append, setS, if_pos hf]; rfl
 | cons x l ih =>
  simp only [List.any_cons, Bool.or_eq_false_iff] at h
  rw [List.cons_append, setS, h.1, if_neg (by simp), ih h.2]; rfl
theorem setTo_keep {fs : List Fd} {name value : ByteArray} {k : Nat} (h : k < fs.length) (hy : isN name fs[k] = false) : setTo fs name value (k + 1) = setTo fs name value k ++ [fs[k]] := by
 unfold setTo
 rw [hasTo_step h, hy, Bool.or_false]
 split
 ·rename_i ht
  rw [take_step fs k h, setS_app ht]
  simp [remS, hy]
 ·exact take_step fs k h
theorem setTo_new {fs : List Fd} {name value : ByteArray} {k : Nat} (h : k < fs.length) (hy : isN name fs[k] = true) (hd : hasTo fs name k = false) : setTo fs name value (k + 1) = setTo fs name value k ++ [(lowS name, value)] := by
 unfold setTo
 rw [hasTo_step h, hy, Bool.or_true, if_pos rfl, hd, if_neg (by simp), take_step fs k h, setS_first hd hy]
 simp [remS]
theorem setTo_skip {fs : List Fd} {name value : ByteArray} {k : Nat} (h : k < fs.length) (hy : isN name fs[k] = true) (hd : hasTo fs name k = true) : setTo fs name value (k + 1) = setTo fs name value k := by
 unfold setTo
 rw [hasTo_step h, hy, Bool.or_true, if_pos rfl, hd, if_pos rfl, take_step fs k h, setS_app hd]
 simp [remS, hy]
theorem setTo_end_yes {fs : List Fd} {name value : ByteArray} (hd : hasTo fs name fs.length = true) : setTo fs name value fs.length = setS name value fs := by
 unfold setTo; rw [hd, if_pos rfl, List.take_of_length_le (Nat.le_refl _)]
theorem setTo_end_no {fs : List Fd} {name value : ByteArray} (hd : hasTo fs name fs.length = false) : setTo fs name value fs.length ++ [(lowS name, value)] = setS name value fs := by
 unfold setTo; rw [hd, if_neg (by simp), List.take_of_length_le (Nat.le_refl _)]
 unfold hasTo at hd
 rw [List.take_of_length_le (Nat.le_refl _)] at hd
 rw [setS_not hd]
theorem setS_len (name value : ByteArray) : ∀ fs : List Fd, (setS name value fs).length ≤ fs.length + 1
 | [] => by simp [setS]
 | f :: r => by
  unfold setS
  split
  ·have := remS_le r name; simp; omega
  ·have := setS_len name value r; simp; omega
theorem setTo_len (fs : List Fd) (name value : ByteArray) (k : Nat) : (setTo fs name value k).length ≤ k + 1 := by
 have h1 : (fs.take k).length ≤ k := by simp; omega
 unfold setTo
 split
 ·have := setS_len name value (fs.take k); omega
 ·omega
end Go.Proofs.YtmckbcbdnckngaaGreatDoor

namespace Go.Proofs.YtmckbcbdnckngaaGreatDoor

abbrev Bs := List UInt8
def alnumC (c : UInt8) : Bool := (48 ≤ c && c ≤ 57) || (97 ≤ c && c ≤ 122) || (65 ≤ c && c ≤ 90)
def unresC (c : UInt8) : Bool := alnumC c || c == 45 || c == 46 || c == 95 || c == 126
def labC (c : UInt8) : Bool := alnumC c || c == 45
def spL (c : UInt8) : Bs → List Bs
 | [] => [[]]
 | x :: l => if x = c then [] :: spL c l else match spL c l with
  | [] => [[x]]
  | h :: t => (x :: h) :: t
def jnL (c : UInt8) : List Bs → Bs
 | [] => []
 | [s] => s
 | s :: t :: l => s ++ c :: jnL c (t :: l)
def labOk (l : Bs) : Bool := decide (1 ≤ l.length) && decide (l.length ≤ 63) && l.head? != some 45 && l.getLast? != some 45 && l.all labC
def hostL (s : Bs) : Option Bs := if decide (s.length ≤ 100) && (spL 46 s).all labOk then some (s.map lowC) else none
def hexV (c : UInt8) : Int := if 48 ≤ c && c ≤ 57 then c.toNat - 48 else if 97 ≤ c && c ≤ 102 then c.toNat - 97 + 10 else if 65 ≤ c && c ≤ 70 then c.toNat - 65 + 10 else -1
def hexC (n : UInt8) : UInt8 := if n < 10 then 48 + n else 55 + n
def byteV (a b : UInt8) : UInt8 := UInt8.ofNat (16 * hexV a + hexV b).toNat
def canL (oth : UInt8 → Bool) : Bs → Option Bs
 | [] => some []
 | c :: l =>
  if c ≠ 37 then (if unresC c || oth c then (canL oth l).map (c :: ·) else none)
  else match l with
   | a :: b :: r =>
    if hexV a < 0 || hexV b < 0 then none
    else if byteV a b < 32 || byteV a b == 127 then none
    else if unresC (byteV a b) then (canL oth r).map (byteV a b :: ·)
    else (canL oth r).map (fun o => 37 :: hexC (byteV a b >>> 4) :: hexC (byteV a b &&& 15) :: o)
   | _ => none
def hexOk (a b : UInt8) : Bool := decide (0 ≤ hexV a) && decide (0 ≤ hexV b) && !(byteV a b < 32 || byteV a b == 127) && !unresC (byteV a b) && a == hexC (byteV a b >>> 4) && b == hexC (byteV a b &&& 15)
def okL (oth : UInt8 → Bool) : Bs → Bool
 | [] => true
 | c :: l =>
  if c ≠ 37 then (unresC c || oth c) && okL oth l
  else match l with
   | a :: b :: r => hexOk a b && okL oth r
   | _ => false
theorem hex_ok : ∀ v : UInt8, (v < 32 || v == 127) = false → unresC v = false → hexOk (hexC (v >>> 4)) (hexC (v &&& 15)) = true := by
 have h : ∀ n : Fin 256, (UInt8.ofFin n < 32 || UInt8.ofFin n == 127) = false → unresC (UInt8.ofFin n) = false → hexOk (hexC (UInt8.ofFin n >>> 4)) (hexC (UInt8.ofFin n &&& 15)) = true := by decide +kernel
 intro v
 have := h v.toFin
 simpa using this
theorem unres_ne {c : UInt8} (h : unresC c = true) : c ≠ 37 := by
 intro e; subst e; revert h; decide
theorem can_ok (oth : UInt8 → Bool) : ∀ (n : Nat) (l r : Bs), l.length ≤ n → canL oth l = some r → okL oth r = true := by
 intro n
 induction n with
 | zero =>
  intro l r hl h
  match l, hl with
  | [], _ => unfold canL at h; injection h with h; subst h; rfl
 | succ n ih =>
  intro l r hl h
  match l, hl with
  | [], _ => unfold canL at h; injection h with h; subst h; rfl
  | c :: l, hl =>
   have hl' : l.length ≤ n := by simpa using hl
   unfold canL at h
   by_cases hc : c ≠ 37
   ·rw [if_pos hc] at h
    cases hu : (unresC c || oth c)
    ·rw [hu] at h; cases h
    ·rw [hu, if_pos rfl] at h
     cases hx : canL oth l with
     | none => rw [hx] at h; cases h
     | some o =>
      rw [hx] at h
      injection h with h
      subst h
      unfold okL
      rw [if_pos hc, hu, ih l o hl' hx]; rfl
   ·rw [if_neg hc] at h
    match l, hl' with
    | [], _ => cases h
    | [_], _ => cases h
    | a :: b :: q, hl' =>
     have hq : q.length ≤ n := by simp at hl'; omega
     dsimp only at h
     split at h
     ·cases h
     ·split at h
      ·cases h
      ·rename_i h32
       have h32 : (byteV a b < 32 || byteV a b == 127) = false := by simpa using h32
       split at h
       ·rename_i hu
        cases hx : canL oth q with
        | none => rw [hx] at h; cases h
        | some o =>
         rw [hx] at h
         injection h with h
         subst h
         unfold okL
         rw [if_pos (unres_ne hu), hu, ih q o hq hx]; rfl
       ·rename_i hu
        have hu : unresC (byteV a b) = false := by simpa using hu
        cases hx : canL oth q with
        | none => rw [hx] at h; cases h
        | some o =>
         rw [hx] at h
         injection h with h
         subst h
         unfold okL
         rw [if_neg (by simp)]
         show (hexOk _ _ && okL oth o) = true
         rw [hex_ok _ h32 hu, ih q o hq hx]; rfl
theorem ok_can (oth : UInt8 → Bool) : ∀ (n : Nat) (l : Bs), l.length ≤ n → okL oth l = true → canL oth l = some l := by
 intro n
 induction n with
 | zero =>
  intro l hl h
  match l, hl with
  | [], _ => rfl
 | succ n ih =>
  intro l hl h
  match l, hl with
  | [], _ => rfl
  | c :: l, hl =>
   have hl' : l.length ≤ n := by simpa using hl
   unfold okL at h
   unfold canL
   by_cases hc : c ≠ 37
   ·rw [if_pos hc] at h ⊢
    rw [Bool.and_eq_true] at h
    rw [h.1, if_pos rfl, ih l hl' h.2]; rfl
   ·rw [if_neg hc] at h ⊢
    match l, hl' with
    | [], _ => cases h
    | [_], _ => cases h
    | a :: b :: q, hl' =>
     have hq : q.length ≤ n := by simp at hl'; omega
     dsimp only at h ⊢
     rw [Bool.and_eq_true] at h
     obtain ⟨h1, h2⟩ := h
     unfold hexOk at h1
     simp only [Bool.and_eq_true, decide_eq_true_eq, Bool.not_eq_true', beq_iff_eq] at h1
     obtain ⟨⟨⟨⟨⟨ha, hb⟩, h32⟩, hu⟩, e1⟩, e2⟩ := h1
     rw [if_neg (by simp; omega), h32, if_neg (by simp), hu, if_neg (by simp), ih q hq h2]
     obtain rfl : c = 37 := by simpa using hc
     rw [← e1, ← e2]; rfl
theorem can_again {oth : UInt8 → Bool} {l r : Bs} (h : canL oth l = some r) : canL oth r = some r := ok_can oth _ r (Nat.le_refl _) (can_ok oth _ l r (Nat.le_refl _) h)
/-! Segments. -/
theorem sp_ne (c : UInt8) (l : Bs) : spL c l ≠ [] := by
 cases l with
 | nil => simp [spL]
 | cons x l =>
  unfold spL
  split
  ·simp
  ·split <;> simp
theorem sp_none {c : UInt8} : ∀ {l : Bs}, c ∉ l → spL c l = [l]
 | [], _ => rfl
 | x :: l, h => by
  simp only [List.mem_cons, not_or] at h
  unfold spL
  rw [if_neg (fun e => h.1 e.symm), sp_none h.2]
theorem sp_cons {c : UInt8} : ∀ {s : Bs} (r : Bs), c ∉ s → spL c (s ++ c :: r) = s :: spL c r
  | [], r, _ => by rw [List.nil_append]; conv => lhs; unfold spL
                   rw [if_pos rfl]
  | x :: s, r, h => by
    simp only [List.mem_cons, not_or] at h
    rw [List.cons_append]
    conv => lhs; unfold spL
    rw [if_neg (fun e => h.1 e.symm), sp_cons r h.2]
theorem sp_join {c : UInt8} : ∀ (L : List Bs), L ≠ [] → (∀ s ∈ L, c ∉ s) → spL c (jnL c L) = L
 | [s], _, h => by show spL c s = _; exact sp_none (h s (List.mem_cons_self ..))
 | s :: t :: L, _, h => by
  show spL c (s ++ c :: jnL c (t :: L)) = _
  rw [sp_cons _ (h s (List.mem_cons_self ..)), sp_join (t :: L) (by simp) (fun x hx => h x (List.mem_cons_of_mem _ hx))]
theorem sp_free (c : UInt8) : ∀ (l : Bs), ∀ s ∈ spL c l, c ∉ s
 | [] => fun s hs => by simp [spL] at hs; subst hs; simp
 | x :: l => fun s hs => by
  have ih := sp_free c l
  unfold spL at hs
  by_cases hx : x = c
  ·rw [if_pos hx] at hs
   rcases List.mem_cons.1 hs with rfl | hs
   ·simp
   ·exact ih s hs
  ·rw [if_neg hx] at hs
   cases hl : spL c l with
   | nil => exact absurd hl (sp_ne c l)
   | cons h t =>
    rw [hl] at hs
    rcases List.mem_cons.1 hs with rfl | hs
    ·have := ih h (by rw [hl]; exact List.mem_cons_self ..)
     simp only [List.mem_cons, not_or]; exact ⟨fun e => hx e.symm, this⟩
    ·exact ih s (by rw [hl]; exact List.mem_cons_of_mem _ hs)
def dotL : Bs := [46]
def dotsL : Bs := [46, 46]
def segF : List Bs → List Bs → Option (List Bs)
 | left, [] => some left
 | left, s :: rest =>
  if s = dotL then segF (if rest.isEmpty then left ++ [[]] else left) rest
  else if s = dotsL then (if left.isEmpty then none else segF (if rest.isEmpty then left.dropLast ++ [[]] else left.dropLast) rest)
  else segF (left ++ [s]) rest
theorem seg_plain : ∀ (L left : List Bs), (∀ s ∈ L, s ≠ dotL ∧ s ≠ dotsL) → segF left L = some (left ++ L)
 | [], left, _ => by rw [List.append_nil]; rfl
 | s :: L, left, h => by
  obtain ⟨h1, h2⟩ := h s (List.mem_cons_self ..)
  unfold segF
  rw [if_neg h1, if_neg h2, seg_plain L _ (fun x hx => h x (List.mem_cons_of_mem _ hx)), List.append_assoc]; rfl
theorem seg_all (Q : Bs → Prop) (h0 : Q []) : ∀ (L left : List Bs) (r : List Bs), (∀ s ∈ L, Q s) → (∀ s ∈ left, Q s ∧ s ≠ dotL ∧ s ≠ dotsL) → segF left L = some r → ∀ s ∈ r, Q s ∧ s ≠ dotL ∧ s ≠ dotsL
 | [], left, r, _, hl, h => by unfold segF at h; injection h with h; subst h; exact hl
 | x :: L, left, r, hL, hl, h => by
  have hL' : ∀ s ∈ L, Q s := fun s hs => hL s (List.mem_cons_of_mem _ hs)
  have hE : Q [] ∧ ([] : Bs) ≠ dotL ∧ ([] : Bs) ≠ dotsL := ⟨h0, by simp [dotL], by simp [dotsL]⟩
  have hadd : ∀ {l : List Bs}, (∀ s ∈ l, Q s ∧ s ≠ dotL ∧ s ≠ dotsL) → ∀ s ∈ (if L.isEmpty then l ++ [[]] else l), Q s ∧ s ≠ dotL ∧ s ≠ dotsL := by
   intro l hl s hs
   split at hs
   ·rcases List.mem_append.1 hs with hs | hs
    ·exact hl s hs
    ·rw [List.mem_singleton] at hs; subst hs; exact hE
   ·exact hl s hs
  unfold segF at h
  by_cases h1 : x = dotL
  ·rw [if_pos h1] at h
   exact seg_all Q h0 L _ r hL' (hadd hl) h
  ·rw [if_neg h1] at h
   by_cases h2 : x = dotsL
   ·rw [if_pos h2] at h
    split at h
    ·cases h
    ·exact seg_all Q h0 L _ r hL' (hadd (fun s hs => hl s (List.dropLast_subset _ hs))) h
   ·rw [if_neg h2] at h
    refine seg_all Q h0 L _ r hL' ?_ h
    intro s hs
    rcases List.mem_append.1 hs with hs | hs
    ·exact hl s hs
    ·rw [List.mem_singleton] at hs; subst hs; exact ⟨hL _ (List.mem_cons_self ..), h1, h2⟩
/-! Addresses. -/
def markC (c : UInt8) : Bool := c == 33 || c == 36 || c == 38 || c == 39 || c == 40 || c == 41 || c == 42 || c == 43 || c == 44 || c == 59 || c == 61 || c == 58 || c == 64 || c == 47
def markQ (c : UInt8) : Bool := markC c || c == 63
structure Adr where
 host : Bs
 path : Bs
 query : Bs
 has : Bool
def cutL (c : UInt8) : Bs → Bs × Bs × Bool
 | [] => ([], [], false)
 | x :: l => if x = c then ([], l, true) else ((x :: (cutL c l).1), (cutL c l).2.1, (cutL c l).2.2)
def adText (a : Adr) : Bs := if a.has then a.host ++ a.path ++ 63 :: a.query else a.host ++ a.path
def adTarget (a : Adr) : Bs := if a.has then a.path ++ 63 :: a.query else a.path
def adP (host target : Bs) : Option Adr :=
 match hostL host with
 | none => none
 | some h =>
  if (cutL 63 target).1.head? ≠ some 47 then none else
  match canL markC (cutL 63 target).1, canL markQ (cutL 63 target).2.1 with
  | some p, some q =>
   match segF [] (spL 47 (p.drop 1)) with
   | none => none
   | some left => if (adText ⟨h, 47 :: jnL 47 left, q, (cutL 63 target).2.2⟩).length ≤ 1024 then some ⟨h, 47 :: jnL 47 left, q, (cutL 63 target).2.2⟩ else none
  | _, _ => none
def adOk (a : Adr) : Bool := (a.has || a.query.isEmpty) && (match adP a.host (adTarget a) with | some b => a.host == b.host && a.path == b.path && a.query == b.query && a.has == b.has | none => false)
theorem cut_none {c : UInt8} : ∀ {l : Bs}, c ∉ l → cutL c l = (l, [], false)
 | [], _ => rfl
 | x :: l, h => by
  simp only [List.mem_cons, not_or] at h
  unfold cutL
  rw [if_neg (fun e => h.1 e.symm), cut_none h.2]
theorem cut_some {c : UInt8} : ∀ {l : Bs} (r : Bs), c ∉ l → cutL c (l ++ c :: r) = (l, r, true)
 | [], r, _ => by rw [List.nil_append]; unfold cutL; rw [if_pos rfl]
 | x :: l, r, h => by
  simp only [List.mem_cons, not_or] at h
  rw [List.cons_append]
  unfold cutL
  rw [if_neg (fun e => h.1 e.symm), cut_some r h.2]
theorem cut_has {c : UInt8} : ∀ (l : Bs), (cutL c l).2.2 = false → (cutL c l).2.1 = []
 | [], _ => rfl
 | x :: l, h => by
  unfold cutL at h ⊢
  by_cases hx : x = c
  ·rw [if_pos hx] at h; cases h
  ·rw [if_neg hx] at h ⊢; exact cut_has l h
theorem hexOk_no47 {a b : UInt8} (h : hexOk a b = true) : a ≠ 47 ∧ b ≠ 47 ∧ a ≠ 63 ∧ b ≠ 63 := by
 have hh : ∀ a b : UInt8, hexOk a b = true → 0 ≤ hexV a ∧ 0 ≤ hexV b := by
  intro a b h
  unfold hexOk at h
  simp only [Bool.and_eq_true, decide_eq_true_eq] at h
  exact ⟨h.1.1.1.1.1, h.1.1.1.1.2⟩
 obtain ⟨h1, h2⟩ := hh a b h
 refine ⟨?_, ?_, ?_, ?_⟩ <;> intro e <;> subst e
 ·exact absurd h1 (by decide)
 ·exact absurd h2 (by decide)
 ·exact absurd h1 (by decide)
 ·exact absurd h2 (by decide)
theorem ok_app {oth : UInt8 → Bool} (h47 : oth 47 = true) : ∀ (n : Nat) (x y : Bs), x.length ≤ n → okL oth (x ++ 47 :: y) = (okL oth x && okL oth y) := by
 intro n
 induction n with
 | zero =>
  intro x y hx
  match x, hx with
  | [], _ =>
   rw [List.nil_append]
   show okL oth (47 :: y) = (true && okL oth y)
   conv => lhs; unfold okL
   rw [if_pos (by decide), h47]; simp
 | succ n ih =>
  intro x y hx
  match x, hx with
  | [], _ =>
   rw [List.nil_append]
   show okL oth (47 :: y) = (true && okL oth y)
   conv => lhs; unfold okL
   rw [if_pos (by decide), h47]; simp
  | c :: x, hx =>
   have hx' : x.length ≤ n := by simpa using hx
   rw [List.cons_append]
   by_cases hc : c ≠ 37
   ·conv => lhs; unfold okL
    conv => rhs; arg 1; unfold okL
    rw [if_pos hc, if_pos hc, ih x y hx', Bool.and_assoc]
   ·match x, hx' with
    | [], _ =>
     conv => rhs; arg 1; unfold okL
     conv => lhs; unfold okL
     rw [if_neg hc, if_neg hc]
     cases y with
     | nil => rfl
     | cons b y =>
      show (hexOk 47 b && okL oth y) = false
      cases hb : hexOk 47 b
      ·rfl
      ·exact absurd rfl (hexOk_no47 hb).1
    | [a], _ =>
     conv => rhs; arg 1; unfold okL
     conv => lhs; unfold okL
     rw [if_neg hc, if_neg hc]
     show (hexOk a 47 && okL oth y) = false
     cases hb : hexOk a 47
     ·rfl
     ·exact absurd rfl (hexOk_no47 hb).2.1
    | a :: b :: q, hx' =>
     have hq : q.length ≤ n := by simp at hx'; omega
     conv => rhs; arg 1; unfold okL
     conv => lhs; unfold okL
     rw [if_neg hc, if_neg hc]
     show (hexOk a b && okL oth (q ++ 47 :: y)) = (hexOk a b && okL oth q && okL oth y)
     rw [ih q y hq, Bool.and_assoc]
theorem ok_parts {oth : UInt8 → Bool} (h47 : oth 47 = true) : ∀ (n : Nat) (l : Bs), l.length ≤ n → okL oth l = true → ∀ s ∈ spL 47 l, okL oth s = true := by
 intro n
 induction n with
 | zero =>
  intro l hl h s hs
  match l, hl with
  | [], _ => simp [spL] at hs; subst hs; rfl
 | succ n ih =>
  intro l hl h s hs
  by_cases hm : (47 : UInt8) ∈ l
  ·obtain ⟨x, y, rfl, hx⟩ := List.eq_append_cons_of_mem hm
   rw [sp_cons y hx] at hs
   rw [ok_app h47 _ x y (Nat.le_refl _), Bool.and_eq_true] at h
   rcases List.mem_cons.1 hs with rfl | hs
   ·exact h.1
   ·exact ih y (by simp at hl; omega) h.2 s hs
  ·rw [sp_none hm, List.mem_singleton] at hs
   subst hs; exact h
theorem ok_join {oth : UInt8 → Bool} (h47 : oth 47 = true) : ∀ (L : List Bs), (∀ s ∈ L, okL oth s = true) → okL oth (jnL 47 L) = true
 | [], _ => rfl
 | [s], h => h s (List.mem_cons_self ..)
 | s :: t :: L, h => by
  show okL oth (s ++ 47 :: jnL 47 (t :: L)) = true
  rw [ok_app h47 _ s _ (Nat.le_refl _), h s (List.mem_cons_self ..), ok_join h47 (t :: L) (fun x hx => h x (List.mem_cons_of_mem _ hx))]; rfl
theorem ok_no63 : ∀ (n : Nat) (l : Bs), l.length ≤ n → okL markC l = true → (63 : UInt8) ∉ l := by
 intro n
 induction n with
 | zero =>
  intro l hl h
  match l, hl with
  | [], _ => simp
 | succ n ih =>
  intro l hl h
  match l, hl with
  | [], _ => simp
  | c :: l, hl =>
   have hl' : l.length ≤ n := by simpa using hl
   unfold okL at h
   by_cases hc : c ≠ 37
   ·rw [if_pos hc, Bool.and_eq_true] at h
    simp only [List.mem_cons, not_or]
    exact ⟨fun e => by rw [← e] at h; exact absurd h.1 (by decide), ih l hl' h.2⟩
   ·rw [if_neg hc] at h
    match l, hl' with
    | [], _ => cases h
    | [_], _ => cases h
    | a :: b :: q, hl' =>
     have hq : q.length ≤ n := by simp at hl'; omega
     dsimp only at h
     rw [Bool.and_eq_true] at h
     obtain ⟨-, -, h1, h2⟩ := hexOk_no47 h.1
     have h37 : c = 37 := by simpa using hc
     simp only [List.mem_cons, not_or]
     exact ⟨by rw [h37]; decide, fun e => h1 e.symm, fun e => h2 e.symm, ih q hq h.2⟩
/-! Hosts. -/
theorem sp_map (f : UInt8 → UInt8) (c : UInt8) (hf : ∀ x, f x = c ↔ x = c) : ∀ l : Bs, spL c (l.map f) = (spL c l).map (·.map f)
 | [] => rfl
 | x :: l => by
  have ih := sp_map f c hf l
  rw [List.map_cons]
  conv => lhs; unfold spL
  conv => rhs; arg 2; unfold spL
  by_cases hx : x = c
  ·rw [if_pos ((hf x).2 hx), if_pos hx, ih]; rfl
  ·rw [if_neg (fun e => hx ((hf x).1 e)), if_neg hx, ih]
   cases spL c l <;> rfl
theorem low_fix (c x : UInt8) (hc : c = 46 ∨ c = 45) : lowC x = c ↔ x = c := by
 have h : ∀ n : Fin 256, (lowC (UInt8.ofFin n) = 46 ↔ UInt8.ofFin n = 46) ∧ (lowC (UInt8.ofFin n) = 45 ↔ UInt8.ofFin n = 45) := by decide +kernel
 have := h x.toFin
 simp only [UInt8.ofFin_toFin] at this
 rcases hc with rfl | rfl
 ·exact this.1
 ·exact this.2
theorem low_lab (x : UInt8) : labC x = true → labC (lowC x) = true := by
 have h : ∀ n : Fin 256, labC (UInt8.ofFin n) = true → labC (lowC (UInt8.ofFin n)) = true := by decide +kernel
 have := h x.toFin
 simpa using this
theorem low_low (x : UInt8) : lowC (lowC x) = lowC x := by
 have h : ∀ n : Fin 256, lowC (lowC (UInt8.ofFin n)) = lowC (UInt8.ofFin n) := by decide +kernel
 have := h x.toFin
 simpa using this
theorem lab_low {l : Bs} (h : labOk l = true) : labOk (l.map lowC) = true := by
 unfold labOk at h ⊢
 simp only [Bool.and_eq_true, decide_eq_true_eq, bne_iff_ne, ne_eq] at h ⊢
 obtain ⟨⟨⟨⟨h1, h2⟩, h3⟩, h4⟩, h5⟩ := h
 refine ⟨⟨⟨⟨by simpa using h1, by simpa using h2⟩, ?_⟩, ?_⟩, ?_⟩
 ·intro e
  rw [List.head?_map] at e
  cases hh : l.head? with
  | none => rw [hh] at e; cases e
  | some x => rw [hh] at e; injection e with e; exact h3 (by rw [hh, (low_fix 45 x (.inr rfl)).1 e])
 ·intro e
  rw [List.getLast?_map] at e
  cases hh : l.getLast? with
  | none => rw [hh] at e; cases e
  | some x => rw [hh] at e; injection e with e; exact h4 (by rw [hh, (low_fix 45 x (.inr rfl)).1 e])
 ·rw [List.all_eq_true] at h5 ⊢
  intro x hx
  obtain ⟨y, hy, rfl⟩ := List.mem_map.1 hx
  exact low_lab y (h5 y hy)
theorem host_again {s h : Bs} (e : hostL s = some h) : hostL h = some h := by
 unfold hostL at e ⊢
 cases hc : (decide (s.length ≤ 100) && (spL 46 s).all labOk)
 ·rw [hc] at e; cases e
 ·rw [hc, if_pos rfl] at e
  injection e with e
  subst e
  rw [Bool.and_eq_true] at hc
  rw [sp_map lowC 46 (fun x => low_fix 46 x (.inl rfl))]
  have h1 : ((spL 46 s).map (·.map lowC)).all labOk = true := by
   rw [List.all_eq_true]
   intro x hx
   obtain ⟨y, hy, rfl⟩ := List.mem_map.1 hx
   exact lab_low (List.all_eq_true.1 hc.2 y hy)
  rw [h1, List.length_map, hc.1, if_pos (by decide), List.map_map]
  congr 1
  exact List.map_congr_left fun x _ => low_low x
theorem ad_valid {host target : Bs} {a : Adr} (h : adP host target = some a) : adOk a = true := by
 unfold adP at h
 cases hh : hostL host with
 | none => rw [hh] at h; cases h
 | some hs =>
  rw [hh] at h
  dsimp only at h
  split at h
  ·cases h
  ·cases hp : canL markC (cutL 63 target).1 with
   | none => rw [hp] at h; cases h
   | some p =>
    cases hq : canL markQ (cutL 63 target).2.1 with
    | none => rw [hp, hq] at h; cases h
    | some q =>
     rw [hp, hq] at h
     dsimp only at h
     cases hs2 : segF [] (spL 47 (p.drop 1)) with
     | none => rw [hs2] at h; cases h
     | some left =>
      rw [hs2] at h
      dsimp only at h
      split at h
      ·rename_i hlen
       injection h with h
       have hp1 := can_ok markC _ _ p (Nat.le_refl _) hp
       have hp2 : okL markC (p.drop 1) = true := by
        cases p with
        | nil => rfl
        | cons c p =>
         rename_i hhead
         -- a canonical path whose first byte is a slash stays so
         rw [List.drop_succ_cons, List.drop_zero]
         have hc : c = 47 := by
          have hx : (cutL 63 target).1.head? = some 47 := by simpa using hhead
          cases hcut : (cutL 63 target).1 with
          | nil => rw [hcut] at hx; cases hx
          | cons y ys =>
           rw [hcut] at hx hp
           injection hx with hx
           subst hx
           unfold canL at hp
           rw [if_pos (by decide), if_pos (by decide)] at hp
           cases hr : canL markC ys with
           | none => rw [hr] at hp; cases hp
           | some o => rw [hr] at hp; injection hp with hp; injection hp with hp _; exact hp.symm
         subst hc
         unfold okL at hp1
         rw [if_pos (by decide), Bool.and_eq_true] at hp1
         exact hp1.2
       have hall := seg_all (fun s => okL markC s = true ∧ (47 : UInt8) ∉ s) ⟨rfl, by simp⟩ (spL 47 (p.drop 1)) [] left
        (fun s hs => ⟨ok_parts (by decide) _ _ (Nat.le_refl _) hp2 s hs, sp_free 47 _ s hs⟩) (by simp) hs2
       have hok : okL markC (jnL 47 left) = true := ok_join (by decide) left fun s hs => (hall s hs).1.1
       have hokp : okL markC (47 :: jnL 47 left) = true := by
        unfold okL
        rw [if_pos (by decide), hok]; rfl
       have hno := ok_no63 _ _ (Nat.le_refl _) hokp
       have hcp : canL markC (47 :: jnL 47 left) = some (47 :: jnL 47 left) := ok_can markC _ _ (Nat.le_refl _) hokp
       have hseg : ∃ l2, segF [] (spL 47 (jnL 47 left)) = some l2 ∧ jnL 47 l2 = jnL 47 left := by
        cases left with
        | nil => exact ⟨[[]], rfl, rfl⟩
        | cons x xs =>
         rw [sp_join _ (by simp) (fun s hs => (hall s hs).1.2), seg_plain _ _ (fun s hs => (hall s hs).2)]
         exact ⟨_, rfl, rfl⟩
       obtain ⟨l2, hl2, hj2⟩ := hseg
       subst h
       have hcut : cutL 63 (adTarget ⟨hs, 47 :: jnL 47 left, q, (cutL 63 target).2.2⟩) = (47 :: jnL 47 left, (if (cutL 63 target).2.2 then q else []), (cutL 63 target).2.2) := by
        unfold adTarget
        cases hb : (cutL 63 target).2.2
        ·exact cut_none hno
        ·exact cut_some q hno
       have hq0 : (cutL 63 target).2.2 = false → q = [] := by
        intro hb
        have := cut_has target hb
        rw [this] at hq
        unfold canL at hq
        injection hq with hq
        exact hq.symm
       have hqq : (if (cutL 63 target).2.2 then q else []) = q := by
        cases hb : (cutL 63 target).2.2
        ·exact (hq0 hb).symm
        ·rfl
       rw [hqq] at hcut
       have hre : adP hs (adTarget ⟨hs, 47 :: jnL 47 left, q, (cutL 63 target).2.2⟩) = some ⟨hs, 47 :: jnL 47 left, q, (cutL 63 target).2.2⟩ := by
        unfold adP
        rw [host_again hh, hcut]
        dsimp only
        rw [if_neg (by simp), hcp, can_again hq]
        dsimp only
        rw [List.drop_succ_cons, List.drop_zero, hl2]
        dsimp only
        rw [hj2, if_pos hlen]
       unfold adOk
       rw [hre]
       dsimp only
       have h1 : ((cutL 63 target).2.2 || q.isEmpty) = true := by
        cases hb : (cutL 63 target).2.2
        ·rw [hq0 hb]; rfl
        ·rfl
       rw [h1]; simp
      ·cases h
end Go.Proofs.YtmckbcbdnckngaaGreatDoor

namespace Go.Proofs.YtmckbcbdnckngaaGreatDoor

theorem ixb_none {c : UInt8} : ∀ {l : Bs}, c ∉ l → Lib.indexByte l c = -1
 | [], _ => rfl
 | x :: l, h => by
  simp only [List.mem_cons, not_or] at h
  unfold Lib.indexByte
  rw [if_neg (by simp; exact fun e => h.1 e.symm), ixb_none h.2]
  try rfl
theorem ixb_some {c : UInt8} : ∀ {x : Bs} (y : Bs), c ∉ x → Lib.indexByte (x ++ c :: y) c = (x.length : Nat)
 | [], y, _ => by rw [List.nil_append]; unfold Lib.indexByte; rw [if_pos (by simp)]; rfl
 | a :: x, y, h => by
  simp only [List.mem_cons, not_or] at h
  rw [List.cons_append]
  unfold Lib.indexByte
  rw [if_neg (by simp; exact fun e => h.1 e.symm), ixb_some y h.2, if_neg (by first | (simp; done) | (simp; omega))]
  simp
theorem count_none {c : UInt8} {l : Bs} (h : c ∉ l) : l.count c = 0 := List.count_eq_zero.2 h
theorem splitK_one (c : UInt8) : ∀ (n : Nat) (l : Bs), l.length ≤ n → Lib.splitK [c] 0 (l.count c) l = spL c l := by
 intro n
 induction n with
 | zero =>
  intro l hl
  match l, hl with
  | [], _ => rfl
 | succ n ih =>
  intro l hl
  by_cases hm : c ∈ l
  ·obtain ⟨x, y, rfl, hx⟩ := List.eq_append_cons_of_mem hm
   have hc : (x ++ c :: y).count c = y.count c + 1 := by
    rw [List.count_append, count_none hx, List.count_cons_self]; omega
   have hi : Lib.index (x ++ c :: y) [c] = (x.length : Nat) := by rw [Lib.index_one, ixb_some y hx]
   rw [hc, sp_cons y hx]
   unfold Lib.splitK
   rw [hi, if_neg (by first | (simp; done) | (simp; omega))]
   have h1 : ((x.length : Nat) : Int).toNat = x.length := by omega
   rw [h1, Nat.add_zero, List.take_left, show x.length + [c].length = x.length + 1 from rfl]
   congr 1
   have h2 : (x ++ c :: y).drop (x.length + 1) = y := by
    rw [List.drop_append, List.drop_of_length_le (by omega)]
    simp
   rw [h2]
   exact ih y (by simp at hl; omega)
  ·rw [count_none hm, sp_none hm]; rfl
theorem split_data (c : UInt8) (s : ByteArray) : (Lib.splitB ⟨#[c]⟩ 0 (Lib.countB s ⟨#[c]⟩) s).map (·.data.toList) = spL c s.data.toList := by
 rw [Lib.splitB_data]
 show Lib.splitK [c] 0 (Lib.count s.data.toList [c]) s.data.toList = _
 rw [Lib.count_one]
 exact splitK_one c _ _ (Nat.le_refl _)
theorem cut_one (c : UInt8) (s : Bs) : Lib.cut s [c] = cutL c s := by
 unfold Lib.cut
 rw [Lib.index_one]
 by_cases hm : c ∈ s
 ·obtain ⟨x, y, rfl, hx⟩ := List.eq_append_cons_of_mem hm
  rw [ixb_some y hx, cut_some y hx, if_pos (by omega)]
  have h1 : ((x.length : Nat) : Int).toNat = x.length := by omega
  rw [h1]
  have h2 : (x ++ c :: y).drop (x.length + [c].length) = y := by
   rw [show x.length + [c].length = x.length + 1 from rfl, List.drop_append, List.drop_of_length_le (by omega)]
   simp
  rw [List.take_left, h2]
 ·rw [ixb_none hm, cut_none hm, if_neg (by omega)]
theorem jn_len (c : UInt8) : ∀ L : List Bs, (jnL c L).length ≤ (L.map List.length).sum + L.length
 | [] => by simp [jnL]
 | [s] => by simp [jnL]
 | s :: t :: L => by
  have ih := jn_len c (t :: L)
  show (s ++ c :: jnL c (t :: L)).length ≤ _
  simp only [List.length_append, List.length_cons, List.map_cons, List.sum_cons] at ih ⊢
  omega
end Go.Proofs.YtmckbcbdnckngaaGreatDoor

namespace Go.Proofs.YtmckbcbdnckngaaGreatDoor

theorem jn_join (c : UInt8) : ∀ L : List Bs, Lib.join L [c] = jnL c L
 | [] => rfl
 | [s] => Lib.join_one s [c]
 | s :: t :: L => by
  have ih := jn_join c (t :: L)
  rw [Lib.join_cons] at ih
  rw [Lib.join_cons]
  show s ++ Lib.joinTail [c] (t :: L) = s ++ c :: jnL c (t :: L)
  rw [← ih]
  simp [Lib.joinTail]
def jnS (c : UInt8) (ss : List ByteArray) : ByteArray := ⟨(jnL c (ss.map (·.data.toList))).toArray⟩
theorem jnS_size (c : UInt8) (ss : List ByteArray) : (jnS c ss).size ≤ totS ss + ss.length := by
 show (jnL c (ss.map (·.data.toList))).toArray.size ≤ _
 have := jn_len c (ss.map (·.data.toList))
 have h2 : ((ss.map (·.data.toList)).map List.length).sum = totS ss := by
  unfold totS
  rw [List.map_map]
  exact congrArg List.sum (List.map_congr_left fun s _ => by simp)
 rw [h2] at this
 simpa using this
end Go.Proofs.YtmckbcbdnckngaaGreatDoor

namespace Go.Proofs.YtmckbcbdnckngaaGreatDoor
open Go.RowKit

def ctlB (c : UInt8) : Bool := (decide ((c.toNat : Int) < 32) && !((c.toNat : Int) == 9)) || ((c.toNat : Int) == 127)
def ctlS (s : ByteArray) : Bool := s.data.toList.any ctlB
theorem ctl_step {s : ByteArray} {k : Nat} (h : k < s.size) (h1 : (s.data.toList.take k).any ctlB = false) (h2 : ctlB s[k] = false) : (s.data.toList.take (k + 1)).any ctlB = false := by
 rw [take_step _ k (by simpa using h), List.any_append, h1]
 have h2 : ctlB s.data[k] = false := h2
 simpa using h2
theorem ctl_yes {s : ByteArray} {k : Nat} (h : k < s.size) (h2 : ctlB s[k] = true) : true = ctlS s := by
 have h2 : ctlB s.data[k] = true := h2
 symm
 unfold ctlS
 rw [List.any_eq_true]
 exact ⟨s.data[k], by simp, h2⟩
theorem ctl_end {s : ByteArray} (h1 : (s.data.toList.take s.size).any ctlB = false) : false = ctlS s := by
 rw [List.take_of_length_le (by simp)] at h1
 exact h1.symm

def blank : List UInt8 := [32, 9]
def bl (c : UInt8) : Bool := blank.contains c
def trimF (s : ByteArray) : ByteArray := ⟨(Lib.trimS s.data.toList blank).toArray⟩

theorem ctlB_yes {c : UInt8} (h : ((c.toNat : Int) < 32 ∧ ¬ (c.toNat : Int) = 9) ∨ (c.toNat : Int) = 127) : ctlB c = true := by
 unfold ctlB; simp only [Bool.or_eq_true, Bool.and_eq_true, decide_eq_true_eq, Bool.not_eq_true', beq_eq_false_iff_ne, beq_iff_eq]; omega
theorem ctlB_no {c : UInt8} (h : ¬ (((c.toNat : Int) < 32 ∧ ¬ (c.toNat : Int) = 9) ∨ (c.toNat : Int) = 127)) : ctlB c = false := by
 rw [Bool.eq_false_iff]; unfold ctlB; simp only [ne_eq, Bool.or_eq_true, Bool.and_eq_true, decide_eq_true_eq, Bool.not_eq_true', beq_eq_false_iff_ne, beq_iff_eq]; omega
def lenOf' : Value → Nat
 | .string b => b.size
 | _ => 0
theorem ext_drop (x : ByteArray) (i : Nat) : (x.extract i x.size).data.toList = x.data.toList.drop i := by
 rw [← ByteArray.toList_eq, Lib.extract_toList]
 rw [List.take_of_length_le (by simp)]
theorem ext_take (x : ByteArray) (i : Nat) : (x.extract 0 i).data.toList = x.data.toList.take i := by
 rw [← ByteArray.toList_eq, Lib.extract_toList, List.drop_zero, Nat.sub_zero]
theorem strings_Trim_blank (s : ByteArray) (w : World) (hs : s.size ≤ 9223372036854775807) :
  Calls Tryz.prog 53 #[.string s, .string ⟨#[32, 9]⟩] w fun e w' => e = .returned (.string (trimF s)) ∧ Ext w w' :=
 Any.strings_Trim_laid Tryz.lays160 (by kernel_rfl) s ⟨#[32, 9]⟩ w hs (by decide) (ascii_of_all (by decide))

theorem field_control (s : ByteArray) (w : World) (hs : s.size ≤ 4611686018427387904) :
    Calls Tryz.prog 52 #[.string s] w fun e w' => e = .returned (.bool (ctlS s)) ∧ Ext w w' := by
  go_enter Tryz.func52, Tryz.ntmps52
  go_wp2_with fail
  go_loopw [6] (fun i wr => ∃ k, k ≤ s.size ∧ i = .int .i64 (k : Nat) ∧ (s.data.toList.take k).any ctlB = false ∧ Ext w wr) (fun i _ => s.size - (intOf i).toNat)
  case atStart => exact ⟨0, Nat.zero_le _, rfl, rfl, Ext.refl _⟩
  case round =>
    obtain ⟨k, hk, rfl, hall, hbr⟩ := hrel
    by_cases hlt : k < s.size
    · have Hst := zi (ctl_step hlt hall); clear hall
      have Hyes := zi (ctl_yes hlt)
      have Hcy := zi (@ctlB_yes s[k])
      have Hcn := zi (@ctlB_no s[k])
      go_wp2_with fail
      all_goals first
        | (have hc := Hcn.out (by (try simp only [beq_iff_eq, beq_eq_false_iff_ne, ne_eq] at *); omega)
           go_roundw
           case rel => exact ⟨k + 1, by omega, by go_num, Hst.out hc, hbr⟩
           case measure => simp [intOf]; omega)
        | (have hc := Hcy.out (by (try simp only [beq_iff_eq, beq_eq_false_iff_ne, ne_eq] at *); omega)
           go_ret; exact ⟨congrArg (fun x => Ending.returned (.bool x)) (Hyes.out hc), hbr⟩)
    · obtain rfl : k = s.size := by omega
      have He := zi (ctl_end hall); clear hall
      go_wp2_with fail
      all_goals (go_ret; exact ⟨congrArg (fun x => Ending.returned (.bool x)) He.out, hbr⟩)

end Go.Proofs.YtmckbcbdnckngaaGreatDoor

namespace Go.Proofs.YtmckbcbdnckngaaGreatDoor
open Go.RowKit

def errV (n : Nat) : Value := if n = 0 then .nilIface else .iface 63 (.int .i64 n)
theorem drop_le {α : Type} (p : α → Bool) : ∀ l : List α, (l.dropWhile p).length ≤ l.length
 | [] => Nat.le_refl _
 | x :: l => by
  rw [List.dropWhile_cons]
  split
  ·exact Nat.le_succ_of_le (drop_le p l)
  ·exact Nat.le_refl _
theorem trimF_size (s : ByteArray) : (trimF s).size ≤ s.size := by
 show (Lib.trimS s.data.toList blank).toArray.size ≤ s.data.size
 unfold Lib.trimS Lib.trimLeftS Lib.trimRightS
 have h1 := drop_le (blank.contains ·) s.data.toList.reverse
 have h2 := drop_le (blank.contains ·) (s.data.toList.reverse.dropWhile (blank.contains ·)).reverse
 simp only [List.length_reverse, Array.length_toList, List.size_toArray] at *
 omega

end Go.Proofs.YtmckbcbdnckngaaGreatDoor

namespace Go.Proofs.YtmckbcbdnckngaaGreatDoor
open Go.RowKit

theorem low_step_yes {s : ByteArray} {k B : Nat} {wr : World} (lt : k < s.size) (hc : ∀ j, j < s.size → wr.cell? ⟨B, j, none⟩ = some (.int .u8 (lowAt s k j)))
  (hf : ∀ j, j < s.size → wr.frozen? ⟨B, j, none⟩ = false) (hy : ((lowC s.data[k]).toNat : Int) = s.data[k].toNat + 32) :
  (∀ j, j < s.size → (wr.setCell ⟨B, k, none⟩ (.int .u8 (s.data[k].toNat + 32))).cell? ⟨B, j, none⟩ = some (.int .u8 (lowAt s (k + 1) j))) ∧
  (∀ j, j < s.size → (wr.setCell ⟨B, k, none⟩ (.int .u8 (s.data[k].toNat + 32))).frozen? ⟨B, j, none⟩ = false) := by
 refine ⟨fun j hj => ?_, fun j hj => by rw [World.frozen?_setCell]; exact hf j hj⟩
 by_cases hjk : j = k
 ·subst hjk
  rw [World.cell?_setCell_same _ _ _ (hc j hj), lowAt_next, List.getD_eq_getElem?_getD, List.getElem?_eq_getElem (show j < s.data.toList.length from hj)]
  simp only [Option.getD_some, Array.getElem_toList]
  rw [hy]
 ·rw [World.cell?_setCell_other _ _ _ _ (by intro e; injection e with _ e; exact hjk e.symm), hc j hj, lowAt_same s k j hjk]
theorem low_step_no {s : ByteArray} {k B : Nat} {wr : World} (lt : k < s.size) (hc : ∀ j, j < s.size → wr.cell? ⟨B, j, none⟩ = some (.int .u8 (lowAt s k j)))
  (hn : lowC s.data[k] = s.data[k]) : ∀ j, j < s.size → wr.cell? ⟨B, j, none⟩ = some (.int .u8 (lowAt s (k + 1) j)) := by
 intro j hj
 by_cases hjk : j = k
 ·subst hjk
  rw [hc j hj, lowAt_next, lowAt_self, List.getD_eq_getElem?_getD, List.getElem?_eq_getElem (show j < s.data.toList.length from hj)]
  simp only [Option.getD_some, Array.getElem_toList]
  rw [hn]
 ·rw [hc j hj, lowAt_same s k j hjk]

theorem field_lower (s : ByteArray) (w : World) (hs : s.size ≤ 9223372036854775807) :
  Calls Tryz.prog 65 #[.string s] w fun e w' => e = .returned (.string (lowS s)) ∧ Ext w w' := by
 go_enter Tryz.func65, Tryz.ntmps65
 have hb := fun w => run_bytes_of_string (P := Tryz.prog) w 9 23 5 s Tryz.underlying9 Tryz.underlying23 Tryz.underlying5
 go_wp2_with fail
 clear hb
 generalize hcap : grownCap w s.size 0 5 = cap
 have hcs : s.size ≤ cap := by rw [← hcap]; exact grownCap_ge _ _ _ _
 clear hcap
 go_loopw [10] (fun i wr => ∃ k : Nat, k ≤ s.size ∧ i = .int .i64 k ∧ Below w.heap.size w wr ∧ (∀ j, j < s.size → wr.cell? ⟨w.heap.size, j, none⟩ = some (.int .u8 (lowAt s k j))) ∧ (∀ j, j < s.size → wr.frozen? ⟨w.heap.size, j, none⟩ = false)) (fun i _ => s.size - (intOf i).toNat)
 case atStart =>
  refine ⟨0, Nat.zero_le _, rfl, ((Below.refl _ _).alloc (Nat.le_refl _) _).drew, fun j hj => ?_, fun j hj => ?_⟩
  ·show (w.alloc _).cell? _ = _
   rw [World.cell?_alloc_mark, bytesRow_at s cap j hj, lowAt_zero s j hj]
   try rfl
  ·show (w.alloc _).frozen? _ = _
   rw [World.frozen?_alloc_mark]
   have : j < (bytesRow s cap).size := by simp [bytesRow]; omega
   simp; omega
 case round =>
  obtain ⟨k, hk, rfl, hbel, hcell, hfr⟩ := hrel
  by_cases hlt : k < s.size
  ·have hc := hcell k hlt
   have hf := hfr k hlt
   have Hcell := zi hcell; clear hcell
   have Hfr := zi hfr; clear hfr
   rw [lowAt_self] at hc
   go_wp2
   ·have h1 : (65 : Int) ≤ (s.data[k].toNat : Int) := by assumption
    have h2 : (s.data[k].toNat : Int) ≤ 90 := by assumption
    have hy := lowC_yes s.data[k] h1 h2
    have ha := low_step_yes (lt := hlt) Hcell.out Hfr.out hy
    go_roundw
    case rel => exact ⟨k + 1, by omega, by go_num, hbel.setCell (Nat.le_refl _) _, ha.1, ha.2⟩
    case measure => simp [intOf]; omega
   all_goals
    have hn : lowC s.data[k] = s.data[k] := lowC_no _ (by omega)
    have ha := low_step_no hlt Hcell.out hn
    go_roundw
    case rel => exact ⟨k + 1, by omega, by go_num, hbel, ha, Hfr.out⟩
    case measure => simp [intOf]; omega
  ·have hk' : k = s.size := by omega
   subst hk'
   have hback := run_convert_bytes_back (P := Tryz.prog) wr 23 9 5 ⟨w.heap.size, 0, none⟩ cap (lowL s.data.toList) Tryz.underlying23 Tryz.underlying5 Tryz.underlying9
    (fun j hj => by rw [add_plain, Nat.zero_add, hcell j (by simpa [lowL] using hj), lowAt_end s s.size j (by simpa [lowL] using hj) hj])
   rw [show (lowL s.data.toList).length = s.size by simp [lowL]] at hback
   clear hcell hfr
   go_wp2
   go_ret
   exact ⟨rfl, hbel⟩
end Go.Proofs.YtmckbcbdnckngaaGreatDoor

namespace Go.Proofs.YtmckbcbdnckngaaGreatDoor
open Go.RowKit

theorem infoStr : (Tryz.prog.info? 9).map (fun i => (i.zero, i.size, i.bytes)) = some (some (.string ⟨#[]⟩), 1, 16) := by kernel_rfl

theorem field_All (A : Option Addr) (n c : Nat) (fs : List Fd) (name : ByteArray) (w : World) (hf : RdF w A n fs)
  (hn : n ≤ 1073741824) (hs : name.size ≤ 9223372036854775807) (hsz : ∀ f ∈ fs, f.1.size ≤ 9223372036854775807) :
  Calls Tryz.prog 50 #[.slice A n c, .string name] w fun e w' => ∃ A' n' c', e = .returned (.slice A' n' c') ∧ RdS w' A' n' (allS fs name) ∧ n' ≤ c' ∧ Ext w w' := by
 go_enter Tryz.func50, Tryz.ntmps50
 go_wp2_with (go_at_call 65; refine (field_lower _ _ (by assumption)).mono ?_; rintro e w1 ⟨rfl, hb1⟩)
 go_loopw [5, 12] (fun v i wr => ∃ k m A' c', k ≤ n ∧ i = .int .i64 (k : Nat) ∧ v = .slice A' m c' ∧ wr.ownsRow w1.heap.size 9 1 (.slice A' m c') m (strCells (allS (fs.take k) name)) ∧ m ≤ c' ∧ Ext w1 wr) (fun _ i _ => n - (intOf i).toNat)
 case atStart => exact ⟨0, 0, none, 0, Nat.zero_le _, rfl, rfl, World.ownsRow_nil _ _ _ _, Nat.le_refl _, Ext.refl _⟩
 case round =>
  obtain ⟨k, m, A', c', hk, rfl, rfl, hown, hmc, hbr⟩ := hrel
  by_cases hlt : k < n
  ·have hl := hf.lenF
   have hlt' : k < fs.length := by omega
   obtain ⟨b, o, rfl, hc0, hc1⟩ := (hf.ext (hb1.trans hbr)).atF hlt'
   have hbd := hsz fs[k] (List.getElem_mem hlt')
   have hm1 := hown.1
   simp only [List.length_map, Nat.mul_one] at hm1
   have hmk := allS_len fs name k
   rw [hm1] at hmk
   have Hl := zi hl; clear hl
   have Hm := zi hm1; clear hm1
   by_cases hy : isN name fs[k] = true
   ·have Hst := zi (allS_yes hlt' hy)
    unfold isN at hy
    generalize fs[k].1 = nm at *
    generalize fs[k].2 = vl at *
    go_wp2_with (first
     | (go_at_call 65; refine (field_lower _ _ (by assumption)).mono ?_; rintro e w2 ⟨rfl, hb2⟩; have hc2 := hb2.cells; have hz2 := hb2.size)
     | (at_builtin; refine wpList_app _ rfl (.tmp 21) (.tmp 24) 53 rfl w1 9 _ 1 16 Tryz.underlying53 infoStr rfl (by decide) _ _ _ rfl ((own_ext (hown.alloc _) hb2).alloc _) _ 1 1 [.string vl] rfl (Rd.one _ _ _ (by simp)) (strCells_one [vl]) (((hbr.alloc _).trans hb2).alloc _) (by omega) (by decide) ?_; intro A2 c2 w3 hown3 hb3 hle3))
    go_roundw
    case rel => exact ⟨k + 1, m + 1, A2, c2, by omega, by go_num, rfl, by rw [Hst.out]; simpa using hown3, hle3, hb3⟩
    case measure => simp [intOf]; omega
   ·have hy : isN name fs[k] = false := by simpa using hy
    have Hst := zi (allS_no hlt' hy)
    unfold isN at hy
    generalize fs[k].1 = nm at *
    generalize fs[k].2 = vl at *
    go_wp2_with (first
     | (go_at_call 65; refine (field_lower _ _ (by assumption)).mono ?_; rintro e w2 ⟨rfl, hb2⟩; have hc2 := hb2.cells; have hz2 := hb2.size))
    go_roundw
    case rel => exact ⟨k + 1, m, A', c', by omega, by go_num, rfl, by rw [Hst.out]; exact own_ext (hown.alloc _) hb2, hmc, (hbr.alloc _).trans hb2⟩
    case measure => simp [intOf]; omega
  ·have hk' : k = n := by omega
   have hl := hf.lenF
   go_wp2
   go_ret
   exact ⟨_, _, _, rfl, by rw [List.take_of_length_le (by omega)] at hown; exact Rd.of_own hown, hmc, hb1.trans hbr⟩
end Go.Proofs.YtmckbcbdnckngaaGreatDoor

namespace Go.Proofs.YtmckbcbdnckngaaGreatDoor
open Go.RowKit

end Go.Proofs.YtmckbcbdnckngaaGreatDoor

namespace Go.Proofs.YtmckbcbdnckngaaGreatDoor
open Go.RowKit

def fin (s : ByteArray) (sep : UInt8) (i st : Nat) (q : Bool) (out : List ByteArray) : Option (List ByteArray) :=
 if h : i < s.size then
  if q = true ∧ s[i] = 92 then fin s sep (i + 2) st q out
  else if s[i] = 34 then fin s sep (i + 1) st (!q) out
  else if q = false ∧ s[i] = sep then fin s sep (i + 1) (i + 1) q (out ++ [trimF (s.extract st i)])
  else fin s sep (i + 1) st q out
 else if q = true then none else some (out ++ [trimF (s.extract st s.size)])
termination_by s.size - i
def partsS (s : ByteArray) (sep : UInt8) : Option (List ByteArray) := if ctlS s = true then none else fin s sep 0 0 false []

section
variable {s : ByteArray} {sep : UInt8} {i st : Nat} {q : Bool} {out : List ByteArray}
theorem u8_of {c : UInt8} (d : UInt8) (h : (c.toNat : Int) = (d.toNat : Int)) : c = d := UInt8.toNat_inj.1 (by omega)
theorem fin_esc (h : i < s.size) (hc : (s[i].toNat : Int) = 92) : fin s sep i st true out = fin s sep (i + 2) st true out := by
 rw [fin, dif_pos h, if_pos ⟨rfl, u8_of 92 hc⟩]
theorem fin_quo (h : i < s.size) (hc : (s[i].toNat : Int) = 34) : fin s sep i st q out = fin s sep (i + 1) st (!q) out := by
 have e := u8_of 34 hc
 rw [fin, dif_pos h, if_neg (by rw [e]; intro hh; exact absurd hh.2 (by decide)), if_pos e]
theorem fin_sep (h : i < s.size) (h34 : ¬ (s[i].toNat : Int) = 34) (hc : (s[i].toNat : Int) = sep.toNat) : fin s sep i st false out = fin s sep (i + 1) (i + 1) false (out ++ [trimF (s.extract st i)]) := by
 rw [fin, dif_pos h, if_neg (by simp), if_neg (by intro e; rw [e] at h34; exact h34 rfl), if_pos ⟨rfl, u8_of sep hc⟩]
theorem fin_q (h : i < s.size) (h34 : ¬ (s[i].toNat : Int) = 34) (hc : ¬ (s[i].toNat : Int) = 92) : fin s sep i st true out = fin s sep (i + 1) st true out := by
 rw [fin, dif_pos h, if_neg (by rintro ⟨-, e⟩; rw [e] at hc; exact hc rfl), if_neg (by intro e; rw [e] at h34; exact h34 rfl), if_neg (by simp)]
theorem fin_p (h : i < s.size) (h34 : ¬ (s[i].toNat : Int) = 34) (hc : ¬ (s[i].toNat : Int) = sep.toNat) : fin s sep i st false out = fin s sep (i + 1) st false out := by
 rw [fin, dif_pos h, if_neg (by simp), if_neg (by intro e; rw [e] at h34; exact h34 rfl), if_neg (by rintro ⟨-, e⟩; rw [e] at hc; exact hc rfl)]
theorem fin_no (h : ¬ i < s.size) : fin s sep i st true out = none := by rw [fin, dif_neg h, if_pos rfl]
theorem fin_end (h : ¬ i < s.size) : fin s sep i st false out = some (out ++ [trimF (s.extract st s.size)]) := by rw [fin, dif_neg h, if_neg (by simp)]
theorem part_size (a b : Nat) : (trimF (s.extract a b)).size ≤ s.size := by
 have h1 := trimF_size (s.extract a b)
 rw [ByteArray.size_extract] at h1
 omega
theorem fin_all : ∀ (n i st : Nat) (q : Bool) (out l : List ByteArray), s.size - i ≤ n → (∀ x ∈ out, x.size ≤ s.size) → fin s sep i st q out = some l →
  (∀ x ∈ l, x.size ≤ s.size) ∧ l.length ≤ out.length + (s.size - i) + 1 := by
 intro n
 induction n with
 | zero =>
  intro i st q out l hn ho h
  rw [fin, dif_neg (by omega)] at h
  split at h
  ·cases h
  ·injection h with h; subst h
   refine ⟨fun x hx => ?_, by simp⟩
   rcases List.mem_append.1 hx with hx | hx
   ·exact ho x hx
   ·simp only [List.mem_singleton] at hx; subst hx; exact part_size _ _
 | succ n ih =>
  intro i st q out l hn ho h
  rw [fin] at h
  split at h
  ·split at h
   ·obtain ⟨a, b⟩ := ih _ _ _ _ _ (by omega) ho h; exact ⟨a, by omega⟩
   ·split at h
    ·obtain ⟨a, b⟩ := ih _ _ _ _ _ (by omega) ho h; exact ⟨a, by omega⟩
    ·split at h
     ·obtain ⟨a, b⟩ := ih _ _ _ _ _ (by omega) (fun x hx => by
       rcases List.mem_append.1 hx with hx | hx
       ·exact ho x hx
       ·simp only [List.mem_singleton] at hx; subst hx; exact part_size _ _) h
      exact ⟨a, by simp at b; omega⟩
     ·obtain ⟨a, b⟩ := ih _ _ _ _ _ (by omega) ho h; exact ⟨a, by omega⟩
  ·split at h
   ·cases h
   ·injection h with h; subst h
    refine ⟨fun x hx => ?_, by simp⟩
    rcases List.mem_append.1 hx with hx | hx
    ·exact ho x hx
    ·simp only [List.mem_singleton] at hx; subst hx; exact part_size _ _
end
theorem parts_all {s : ByteArray} {sep : UInt8} : (∀ x ∈ (partsS s sep).getD [], x.size ≤ s.size) ∧ ((partsS s sep).getD []).length ≤ s.size + 1 := by
 unfold partsS
 split
 ·exact ⟨by simp, by simp⟩
 ·cases h : fin s sep 0 0 false [] with
  | none => exact ⟨by simp, by simp⟩
  | some l =>
   obtain ⟨a, b⟩ := fin_all s.size 0 0 false [] l (by omega) (by simp) h
   exact ⟨a, by simpa using b⟩
def pE (o : Option (List ByteArray)) : Nat := if o.isSome then 0 else 2
theorem parts_ctl {s : ByteArray} {sep : UInt8} (h : ctlS s = true) : partsS s sep = none := by unfold partsS; rw [if_pos h]
theorem parts_fin {s : ByteArray} {sep : UInt8} (h : ctlS s = false) : fin s sep 0 0 false [] = partsS s sep := by unfold partsS; rw [if_neg (by simp [h])]

theorem syntax_control (c : UInt8) (w : World) :
  Calls Tryz.prog 120 #[.int .u8 (c.toNat : Int)] w fun e w' => e = .returned (.bool (ctlB c)) ∧ Ext w w' := by
 go_enter Tryz.func120, Tryz.ntmps120
 have Hcy := zi (@ctlB_yes c)
 have Hcn := zi (@ctlB_no c)
 go_wp2_with fail
 all_goals
  go_ret
  refine ⟨congrArg (fun x => Ending.returned (.bool x)) ?_, Ext.refl _⟩
  by_cases hh : ((c.toNat : Int) < 32 ∧ ¬ (c.toNat : Int) = 9) ∨ (c.toNat : Int) = 127
  ·rw [Hcy.out hh]; (try simp); (try omega)
  ·rw [Hcn.out hh]; (try simp); (try omega)

theorem syntax_clean (s : ByteArray) (w : World) (hs : s.size ≤ 4611686018427387904) :
  Calls Tryz.prog 96 #[.string s] w fun e w' => e = .returned (.bool (!ctlS s)) ∧ Ext w w' := by
 go_enter Tryz.func96, Tryz.ntmps96
 go_wp2_with fail
 go_loopw [6] (fun i wr => ∃ k, k ≤ s.size ∧ i = .int .i64 (k : Nat) ∧ (s.data.toList.take k).any ctlB = false ∧ Ext w wr) (fun i _ => s.size - (intOf i).toNat)
 case atStart => exact ⟨0, Nat.zero_le _, rfl, rfl, Ext.refl _⟩
 case round =>
  obtain ⟨k, hk, rfl, hall, hbr⟩ := hrel
  by_cases hlt : k < s.size
  ·have Hst := zi (ctl_step hlt hall); clear hall
   have Hyes := zi (ctl_yes hlt)
   have Hc := zi (syntax_control s.data[k])
   go_wp2_with fail
   refine (Hc.out _).mono ?_; rintro e w2 ⟨rfl, hb2⟩
   have e1 : ctlB s.data[k] = ctlB s[k] := rfl
   rw [e1]
   clear e1
   generalize ctlB s[k] = b at *
   cases b
   ·go_wp2_with fail
    go_roundw
    case rel => exact ⟨k + 1, by omega, by go_num, Hst.out trivial, hbr.trans hb2⟩
    case measure => simp [intOf]; omega
   ·go_wp2_with fail
    go_ret
    exact ⟨congrArg (fun x => Ending.returned (.bool x)) (by rw [← Hyes.out trivial]; rfl), hbr.trans hb2⟩
  ·obtain rfl : k = s.size := by omega
   have He := zi (ctl_end hall); clear hall
   go_wp2_with fail
   go_ret
   exact ⟨congrArg (fun x => Ending.returned (.bool x)) (by rw [← He.out]; rfl), hbr⟩

theorem syntax_parts (s : ByteArray) (sep : UInt8) (w : World) (hs : s.size ≤ 1048576) :
  Calls Tryz.prog 176 #[.string s, .int .u8 (sep.toNat : Int)] w fun e w' => ∃ A n c, e = .returned (.tuple #[.slice A n c, errV (pE (partsS s sep))]) ∧
   RdS w' A n ((partsS s sep).getD []) ∧ n ≤ c ∧ Ext w w' := by
 go_enter Tryz.func176, Tryz.ntmps176
 go_wp2_with fail
 refine (syntax_clean s _ (by omega)).mono ?_; rintro e w1 ⟨rfl, hb1⟩
 cases hct : ctlS s
 ·have HP := zi (parts_fin (sep := sep) hct); clear hct
  go_wp2_with fail
  go_loopw [6, 7, 8, 9] (fun v a q i wr => ∃ k j b m A' c' OUT, i = .int .i64 (k : Nat) ∧ a = .int .i64 (j : Nat) ∧ q = .bool b ∧ v = .slice A' m c' ∧ wr.ownsRow w1.heap.size 9 1 (.slice A' m c') m (strCells OUT) ∧ m ≤ c' ∧ m ≤ k ∧ j ≤ k ∧ j ≤ s.size ∧ k ≤ s.size + 1 ∧ fin s sep k j b OUT = partsS s sep ∧ Ext w1 wr) (fun _ _ _ i _ => s.size + 1 - (intOf i).toNat)
  case atStart => exact ⟨0, 0, false, 0, none, 0, [], rfl, rfl, rfl, rfl, World.ownsRow_nil _ _ _ _, Nat.le_refl _, Nat.le_refl _, Nat.le_refl _, by omega, by omega, HP.out, Ext.refl _⟩
  case round =>
   obtain ⟨k, j, b, m, A', c', OUT, rfl, rfl, rfl, rfl, hown, hmc, hmk, hjk, hjs, hks, hfin, hbr⟩ := hrel
   by_cases hlt : k < s.size
   ·cases b
    ·by_cases h34 : (s[k].toNat : Int) = 34
     ·have HF := zi ((fin_quo (q := false) hlt h34).symm.trans hfin); clear hfin
      go_wp2_with fail
      go_roundw
      case rel => exact ⟨k + 1, j, true, m, A', c', OUT, by go_num, rfl, rfl, rfl, hown, hmc, by omega, by omega, hjs, by omega, HF.out, hbr⟩
      case measure => simp [intOf]; omega
     ·by_cases hsp : (s[k].toNat : Int) = sep.toNat
      ·have HF := zi ((fin_sep hlt h34 hsp).symm.trans hfin); clear hfin
       go_wp2_with fail
       refine (strings_Trim_blank _ _ (by rw [ByteArray.size_extract]; omega)).mono ?_; rintro e w2 ⟨rfl, hb2⟩
       have hps := part_size (s := s) j k
       generalize trimF (s.extract j k) = T at *
       go_wp2_with (first
        | (at_builtin; refine wpList_app _ rfl (.tmp 47) (.tmp 53) 53 rfl w1 9 _ 1 16 Tryz.underlying53 infoStr rfl (by decide) _ _ _ rfl ((own_ext hown hb2).alloc _) _ 1 1 [.string T] rfl (Rd.one _ _ _ (by simp)) (strCells_one [T]) ((hbr.trans hb2).alloc _) (by omega) (by decide) ?_; intro A2 c2 w3 hown3 hb3 hle3))
       go_roundw
       case rel => exact ⟨k + 1, k + 1, false, m + 1, A2, c2, OUT ++ [T], by go_num, by go_num, rfl, rfl, by simpa using hown3, hle3, by omega, by omega, by omega, by omega, HF.out, hb3⟩
       case measure => simp [intOf]; omega
      ·have HF := zi ((fin_p hlt h34 hsp).symm.trans hfin); clear hfin
       go_wp2_with fail
       go_roundw
       case rel => exact ⟨k + 1, j, false, m, A', c', OUT, by go_num, rfl, rfl, rfl, hown, hmc, by omega, by omega, hjs, by omega, HF.out, hbr⟩
       case measure => simp [intOf]; omega
    ·by_cases h92 : (s[k].toNat : Int) = 92
     ·have HF := zi ((fin_esc hlt h92).symm.trans hfin); clear hfin
      go_wp2_with fail
      go_roundw
      case rel => exact ⟨k + 2, j, true, m, A', c', OUT, by go_num, rfl, rfl, rfl, hown, hmc, by omega, by omega, hjs, by omega, HF.out, hbr⟩
      case measure => simp [intOf]; omega
     ·by_cases h34 : (s[k].toNat : Int) = 34
      ·have HF := zi ((fin_quo (q := true) hlt h34).symm.trans hfin); clear hfin
       go_wp2_with fail
       go_roundw
       case rel => exact ⟨k + 1, j, false, m, A', c', OUT, by go_num, rfl, rfl, rfl, hown, hmc, by omega, by omega, hjs, by omega, HF.out, hbr⟩
       case measure => simp [intOf]; omega
      ·have HF := zi ((fin_q hlt h34 h92).symm.trans hfin); clear hfin
       go_wp2_with fail
       go_roundw
       case rel => exact ⟨k + 1, j, true, m, A', c', OUT, by go_num, rfl, rfl, rfl, hown, hmc, by omega, by omega, hjs, by omega, HF.out, hbr⟩
       case measure => simp [intOf]; omega
   ·cases b
    ·have HF := zi ((fin_end hlt).symm.trans hfin); clear hfin
     go_wp2_with fail
     refine (strings_Trim_blank _ _ (by rw [ByteArray.size_extract]; omega)).mono ?_; rintro e w2 ⟨rfl, hb2⟩
     generalize trimF (s.extract j s.size) = T at *
     go_wp2_with (first
      | (at_builtin; refine wpList_app _ rfl (.tmp 59) (.tmp 64) 53 rfl w1 9 _ 1 16 Tryz.underlying53 infoStr rfl (by decide) _ _ _ rfl ((own_ext hown hb2).alloc _) _ 1 1 [.string T] rfl (Rd.one _ _ _ (by simp)) (strCells_one [T]) ((hbr.trans hb2).alloc _) (by omega) (by decide) ?_; intro A2 c2 w3 hown3 hb3 hle3))
     go_ret2
     refine ⟨_, _, _, by rw [← HF.out]; rfl, ?_, hle3, hb1.trans hb3⟩
     rw [← HF.out]
     have := Rd.of_own hown3
     simpa [RdS, strCells] using this
    ·have HF := zi ((fin_no hlt).symm.trans hfin); clear hfin
     go_wp2_with fail
     go_ret2
     refine ⟨none, 0, 0, by rw [← HF.out]; rfl, ?_, Nat.le_refl _, hb1.trans hbr⟩
     rw [← HF.out]
     exact Rd.none_ _ _ _
 ·have HP := zi (parts_ctl (sep := sep) hct); clear hct
  go_wp2_with fail
  go_ret2
  refine ⟨none, 0, 0, by rw [HP.out]; rfl, ?_, Nat.le_refl _, hb1⟩
  rw [HP.out]
  exact Rd.none_ _ _ _

end Go.Proofs.YtmckbcbdnckngaaGreatDoor

namespace Go.Proofs.YtmckbcbdnckngaaGreatDoor
open Go.RowKit

def full (x : ByteArray) : Bool := decide (0 < x.size)
def itemsS (s : ByteArray) : List ByteArray := ((partsS s 44).getD []).filter full
theorem full_no {x : ByteArray} (h : x = ⟨#[]⟩) : full x = false := by subst h; rfl
theorem full_yes {x : ByteArray} (h : x ≠ ⟨#[]⟩) : full x = true := by
 unfold full
 rcases Nat.eq_zero_or_pos x.size with h0 | h0
 ·exact absurd (ByteArray.size_eq_zero_iff.1 h0) h
 ·simpa using h0
theorem isE_yes {x : ByteArray} (h : x = ⟨#[]⟩) : x.toList.isEmpty = true := by rw [ByteArray.toList_eq]; subst h; rfl
theorem isE_no {x : ByteArray} (h : x ≠ ⟨#[]⟩) : x.toList.isEmpty = false := by
 rw [Bool.eq_false_iff, ByteArray.toList_eq]
 intro he
 exact h (bytes_ext (List.isEmpty_iff.1 he))
theorem items_all {s : ByteArray} : (∀ x ∈ itemsS s, x.size ≤ s.size) ∧ (itemsS s).length ≤ s.size + 1 :=
 ⟨fun x hx => (parts_all (sep := 44)).1 x (List.mem_filter.1 hx).1, Nat.le_trans (List.length_filter_le _ _) (parts_all (sep := 44)).2⟩

theorem syntax_List (s : ByteArray) (w : World) (hs : s.size ≤ 1048576) :
  Calls Tryz.prog 153 #[.string s] w fun e w' => ∃ A n c, e = .returned (.tuple #[.slice A n c, errV (pE (partsS s 44))]) ∧
   RdS w' A n (itemsS s) ∧ n ≤ c ∧ Ext w w' ∧ w'.ownsRow w.heap.size 9 1 (.slice A n c) n (strCells (itemsS s)) := by
 go_enter Tryz.func153, Tryz.ntmps153
 go_wp2_with fail
 refine (syntax_parts s 44 _ hs).mono ?_; rintro e w1 ⟨A1, n1, c1, rfl, hr1, hc1, hb1⟩
 have hit := (parts_all (s := s) (sep := 44)).2
 have hl1 := hr1.lenS
 have Hi := zi (show itemsS s = ((partsS s 44).getD []).filter full from rfl)
 cases hp : partsS s 44
 ·rw [hp] at hr1 Hi
  rw [show pE none = 2 from rfl, show errV 2 = .iface 63 (.int .i64 2) from rfl]
  have Hp := zi hp; clear hp
  go_wp2_with fail
  go_ret2
  refine ⟨none, 0, 0, by rw [Hp.out]; rfl, ?_, Nat.le_refl _, hb1, ?_⟩
  ·rw [Hi.out]; exact Rd.none_ _ _ _
  ·rw [Hi.out]; exact World.ownsRow_nil _ _ _ _
 ·rename_i P
  rw [hp] at hr1 Hi hit hl1
  rw [show pE (some P) = 0 from rfl, show errV 0 = .nilIface from rfl]
  simp only [Option.getD_some] at hr1 Hi hit hl1
  have Hp := zi hp; clear hp
  have Hl := zi hl1; clear hl1
  have hn1 : n1 ≤ 1048577 := by have := Hl.out; omega
  clear hit
  go_wp2_with fail
  go_loopw [6, 19] (fun v i wr => ∃ k m A' c', k ≤ n1 ∧ i = .int .i64 (k : Nat) ∧ v = .slice A' m c' ∧ wr.ownsRow w1.heap.size 9 1 (.slice A' m c') m (strCells ((P.take k).filter full)) ∧ m ≤ c' ∧ m ≤ k ∧ Ext w1 wr) (fun _ i _ => n1 - (intOf i).toNat)
  case atStart => exact ⟨0, 0, none, 0, Nat.zero_le _, rfl, rfl, World.ownsRow_nil _ _ _ _, Nat.le_refl _, Nat.le_refl _, Ext.refl _⟩
  case round =>
   obtain ⟨k, m, A', c', hk, rfl, rfl, hown, hmc, hmk, hbr⟩ := hrel
   by_cases hlt : k < n1
   ·have hlt' : k < P.length := by have := Hl.out; omega
    obtain ⟨b, o, rfl, hc0⟩ := (hr1.ext hbr).atS hlt'
    have Hy := zi (ft_yes full hlt')
    have Hn := zi (ft_no full hlt')
    generalize P[k] = x at *
    by_cases hx : x = ⟨#[]⟩
    ·have hq := isE_yes hx
     have Hf := zi (full_no hx); clear hx
     go_wp2_with fail
     go_roundw
     case rel => exact ⟨k + 1, m, A', c', by omega, by go_num, rfl, by rw [Hn.out Hf.out]; exact hown, hmc, by omega, hbr⟩
     case measure => simp [intOf]; omega
    ·have hq := isE_no hx
     have Hf := zi (full_yes hx); clear hx
     go_wp2_with (first
      | (at_builtin; refine wpList_app _ rfl (.tmp 25) (.tmp 27) 53 rfl w1 9 _ 1 16 Tryz.underlying53 infoStr rfl (by decide) _ _ _ rfl (hown.alloc _) _ 1 1 [.string x] rfl (Rd.one _ _ _ (by simp)) (strCells_one [x]) (hbr.alloc _) (by omega) (by decide) ?_; intro A2 c2 w3 hown3 hb3 hle3))
     go_roundw
     case rel => exact ⟨k + 1, m + 1, A2, c2, by omega, by go_num, rfl, by rw [Hy.out Hf.out]; simpa using hown3, hle3, by omega, hb3⟩
     case measure => simp [intOf]; omega
   ·obtain rfl : k = n1 := by omega
    have he : P.take k = P := List.take_of_length_le (by have := Hl.out; omega)
    rw [he] at hown
    clear he
    go_wp2_with fail
    go_ret2
    exact ⟨_, _, _, by rw [Hp.out]; rfl, by rw [Hi.out]; exact Rd.of_own hown, hmc, hb1.trans hbr, by rw [Hi.out]; exact own_base hown hb1.size⟩

end Go.Proofs.YtmckbcbdnckngaaGreatDoor

namespace Go.Proofs.YtmckbcbdnckngaaGreatDoor

def stepN (a : Bs × Bool) (c : UInt8) : Bs × Bool :=
 if c == 32 || c == 9 then (a.1, true)
 else ((if a.2 && !a.1.isEmpty then a.1 ++ [32] else a.1) ++ [if c < 32 || c == 127 then 63 else c], false)
def nrmV (s : ByteArray) : ByteArray := ⟨(s.data.toList.foldl stepN ([], false)).1.toArray⟩
def quoC (c : UInt8) : Bs := if c == 34 || c == 92 then [92, c] else [c]
def quoV (s : ByteArray) : ByteArray := ⟨(34 :: (s.data.toList.flatMap quoC ++ [34])).toArray⟩
def partK (fs : List Fd) (n : ByteArray) : ByteArray :=
 if (allS fs n).isEmpty then n
 else n ++ ⟨#[61]⟩ ++ (if ctlS (jnS 44 ((allS fs n).map nrmV)) then ⟨#[]⟩ else quoV (jnS 44 ((allS fs n).map nrmV)))
def vkyS (names : List ByteArray) (fs : List Fd) : ByteArray := jnS 38 (names.map (partK fs))
/-! Ranges. -/
def digC (c : UInt8) : Bool := 48 ≤ c && c ≤ 57
def nmbV (s : ByteArray) : Int := if s.data.toList.all digC && decide (0 < s.size) && decide (s.size ≤ 15) then (s.data.toList.foldl (fun n c => 10 * n + ((c.toNat : Int) - 48)) 0) else 0
def nmbE (s : ByteArray) : Nat := if !s.data.toList.all digC || s.size == 0 then 2 else if decide (15 < s.size) then 5 else 0
def elR (s : ByteArray) (len : Int) : Option (Int × Int) :=
 let a : ByteArray := ⟨(cutL 45 s.data.toList).1.toArray⟩
 let b : ByteArray := ⟨(cutL 45 s.data.toList).2.1.toArray⟩
 if !(cutL 45 s.data.toList).2.2 then none
 else if a.size == 0 then (if nmbE b == 0 then some (max 0 (len - nmbV b), len) else none)
 else if nmbE a != 0 || (b.size != 0 && nmbE b != 0) || (nmbE b == 0 && decide (nmbV b < nmbV a)) then none
 else some (nmbV a, if nmbE b == 0 then min len (nmbV b + 1) else len)
def elsR (len : Int) : List ByteArray → Option (List (Int × Int))
 | [] => some []
 | s :: l => match elR s len with
  | none => none
  | some r => (elsR len l).map fun o => if r.1 < r.2 then r :: o else o
def byN : ByteArray := ⟨#[98, 121, 116, 101, 115, 61]⟩
def rgRest (v : ByteArray) : ByteArray := ⟨(Lib.trimPrefix v.data.toList byN.data.toList).toArray⟩
def rgP (v : ByteArray) (len : Int) : Nat × List (Int × Int) :=
 if !Lib.hasPrefix v.data.toList byN.data.toList || !(partsS (rgRest v) 44).isSome || (itemsS (rgRest v)).isEmpty then (2, [])
 else match elsR (max 0 len) (itemsS (rgRest v)) with
  | none => (2, [])
  | some o => if decide (8 < (itemsS (rgRest v)).length) then (5, []) else if o.isEmpty then (1, []) else (0, o)
def decV (n : Int) : ByteArray := ⟨(Lib.decDigits n.toNat).toArray⟩
def byS : ByteArray := ⟨#[98, 121, 116, 101, 115, 32]⟩
def rgText (r : Int × Int) : ByteArray := decV r.1 ++ ⟨#[45]⟩ ++ decV (r.2 - 1)
def rgProper (r : Int × Int) : Bool := decide (0 ≤ r.1) && decide (r.1 < r.2) && decide (r.2 ≤ 999999999999999)
def crP (r : Int × Int) (len : Int) : Option ByteArray :=
 if !rgProper r || decide (len < r.2) || decide (999999999999999 < len) then none else some (byS ++ rgText r ++ ⟨#[47]⟩ ++ decV len)
end Go.Proofs.YtmckbcbdnckngaaGreatDoor

namespace Go.Proofs.YtmckbcbdnckngaaGreatDoor
open Go.RowKit

def most : Int := 2147483647
end Go.Proofs.YtmckbcbdnckngaaGreatDoor

namespace Go.Proofs.YtmckbcbdnckngaaGreatDoor
open Go.RowKit

section
variable {s out : ByteArray} {i : Nat}
end
end Go.Proofs.YtmckbcbdnckngaaGreatDoor

namespace Go.Proofs.YtmckbcbdnckngaaGreatDoor
open Go.RowKit

theorem infoU8 : (Tryz.prog.info? 5).map (fun i => (i.zero, i.size, i.bytes)) = some (some (.int .u8 0), 1, 1) := by kernel_rfl
def byCells (s : ByteArray) : List Value := s.data.toList.map fun b => .int .u8 (b.toNat : Int)
theorem byCells_len (s : ByteArray) : (byCells s).length = s.size := by unfold byCells; rw [List.length_map]; simp
theorem slice_inj {A B : Option Addr} {n m c d : Nat} (h : Value.slice A n c = .slice B m d) : A = B ∧ n = m ∧ c = d := by
 injection h with a b c; exact ⟨a, b, c⟩
theorem conv_own {w : World} {base n c : Nat} {A : Option Addr} {X : ByteArray} (h : w.ownsRow base 5 1 (.slice A n c) n (byCells X)) :
  (convert 23 9 (.slice A n c)).run Tryz.prog w = .ok (.string X) w := by
 have hl := h.1
 rw [byCells_len, Nat.mul_one] at hl
 rcases h.2 with ⟨hv, h0⟩ | ⟨g, cap, cur, hv, rest⟩
 ·obtain ⟨rfl, rfl, rfl⟩ := slice_inj hv
  clear h0
  have hx : X = ByteArray.empty := ByteArray.size_eq_zero_iff.1 hl
  subst hx
  exact run_convert_bytes_nil (P := Tryz.prog) w 23 5 Tryz.underlying23 Tryz.underlying5 _ _ 9 Tryz.underlying9
 ·obtain ⟨rfl, -, -⟩ := slice_inj hv
  have hl2 : X.data.toList.length = n := by rw [← hl]; simp
  have := run_convert_bytes_back (P := Tryz.prog) w 23 9 5 ⟨g, 0, none⟩ c X.data.toList Tryz.underlying23 Tryz.underlying5 Tryz.underlying9
   (fun j hj => h.cells (g := g) rfl j _ (by unfold byCells; rw [List.getElem?_map, List.getElem?_eq_getElem hj]; rfl))
  rw [hl2] at this
  simpa using this

def uE (o : Option ByteArray) : Nat := if o.isSome then 0 else 2
end Go.Proofs.YtmckbcbdnckngaaGreatDoor

namespace Go.Proofs.YtmckbcbdnckngaaGreatDoor
open Go.RowKit

theorem ret_b55 {a b : Bool} (h : a = b) : Ending.returned (.bool a) = .returned (.bool b) := by rw [h]
theorem ret_i55 {a b : Int} (h : a = b) : Ending.returned (.int .i64 a) = .returned (.int .i64 b) := by rw [h]
theorem c8_le (a c : UInt8) : (decide (a ≤ c)) = decide ((a.toNat : Int) ≤ c.toNat) := by
 congr 1
 rw [UInt8.le_iff_toNat_le]
 exact propext ⟨fun h => by omega, fun h => by omega⟩
theorem c8_eq (c k : UInt8) : (c == k) = ((c.toNat : Int) == k.toNat) := by
 rw [Bool.eq_iff_iff, beq_iff_eq, beq_iff_eq]
 exact ⟨fun h => by rw [h], fun h => UInt8.toNat_inj.1 (by omega)⟩
theorem alnum_iff (c : UInt8) : alnumC c = ((decide ((48 : Int) ≤ c.toNat) && decide ((c.toNat : Int) ≤ 57)) || (decide ((97 : Int) ≤ c.toNat) && decide ((c.toNat : Int) ≤ 122)) || (decide ((65 : Int) ≤ c.toNat) && decide ((c.toNat : Int) ≤ 90))) := by
 unfold alnumC; rw [c8_le, c8_le, c8_le, c8_le, c8_le, c8_le]; rfl
theorem unres_iff (c : UInt8) : unresC c = (alnumC c || ((c.toNat : Int) == 45) || ((c.toNat : Int) == 46) || ((c.toNat : Int) == 95) || ((c.toNat : Int) == 126)) := by
 unfold unresC; rw [c8_eq, c8_eq, c8_eq, c8_eq]; rfl
theorem adr_alnum (c : UInt8) (w : World) : Calls Tryz.prog 69 #[.int .u8 c.toNat] w fun e w' => e = .returned (.bool (alnumC c)) ∧ w' = w := by
 have hlt : (c.toNat : Int) < 256 := by have := c.toNat_lt; omega
 have Hc := zi (alnum_iff c)
 have hcases : ((c.toNat : Int) ≤ 47) ∨ ((48 : Int) ≤ c.toNat ∧ (c.toNat : Int) ≤ 57) ∨ ((58 : Int) ≤ c.toNat ∧ (c.toNat : Int) ≤ 64) ∨ ((65 : Int) ≤ c.toNat ∧ (c.toNat : Int) ≤ 90) ∨ ((91 : Int) ≤ c.toNat ∧ (c.toNat : Int) ≤ 96) ∨ ((97 : Int) ≤ c.toNat ∧ (c.toNat : Int) ≤ 122) ∨ ((123 : Int) ≤ c.toNat) := by omega
 generalize alnumC c = R at *
 rcases hcases with h | h | h | h | h | h | h
 ·skip
  have k0 : ¬ (48 : Int) ≤ c.toNat := by omega
  have k1 : (c.toNat : Int) ≤ 57 := by omega
  have k2 : ¬ (97 : Int) ≤ c.toNat := by omega
  have k3 : (c.toNat : Int) ≤ 122 := by omega
  have k4 : ¬ (65 : Int) ≤ c.toNat := by omega
  have k5 : (c.toNat : Int) ≤ 90 := by omega
  have HR := zi (show false = R by rw [Hc.out]; simp [k0, k1, k2, k3, k4, k5])
  clear h hlt Hc
  go_enter Tryz.func69, Tryz.ntmps69
  go_wp2_with fail
  go_ret
  exact ⟨ret_b55 HR.out, rfl⟩
 ·skip
  have k0 : (48 : Int) ≤ c.toNat := by omega
  have k1 : (c.toNat : Int) ≤ 57 := by omega
  have k2 : ¬ (97 : Int) ≤ c.toNat := by omega
  have k3 : (c.toNat : Int) ≤ 122 := by omega
  have k4 : ¬ (65 : Int) ≤ c.toNat := by omega
  have k5 : (c.toNat : Int) ≤ 90 := by omega
  have HR := zi (show true = R by rw [Hc.out]; simp [k0, k1, k2, k3, k4, k5])
  clear h hlt Hc
  go_enter Tryz.func69, Tryz.ntmps69
  go_wp2_with fail
  go_ret
  exact ⟨ret_b55 HR.out, rfl⟩
 ·skip
  have k0 : (48 : Int) ≤ c.toNat := by omega
  have k1 : ¬ (c.toNat : Int) ≤ 57 := by omega
  have k2 : ¬ (97 : Int) ≤ c.toNat := by omega
  have k3 : (c.toNat : Int) ≤ 122 := by omega
  have k4 : ¬ (65 : Int) ≤ c.toNat := by omega
  have k5 : (c.toNat : Int) ≤ 90 := by omega
  have HR := zi (show false = R by rw [Hc.out]; simp [k0, k1, k2, k3, k4, k5])
  clear h hlt Hc
  go_enter Tryz.func69, Tryz.ntmps69
  go_wp2_with fail
  go_ret
  exact ⟨ret_b55 HR.out, rfl⟩
 ·skip
  have k0 : (48 : Int) ≤ c.toNat := by omega
  have k1 : ¬ (c.toNat : Int) ≤ 57 := by omega
  have k2 : ¬ (97 : Int) ≤ c.toNat := by omega
  have k3 : (c.toNat : Int) ≤ 122 := by omega
  have k4 : (65 : Int) ≤ c.toNat := by omega
  have k5 : (c.toNat : Int) ≤ 90 := by omega
  have HR := zi (show true = R by rw [Hc.out]; simp [k0, k1, k2, k3, k4, k5])
  clear h hlt Hc
  go_enter Tryz.func69, Tryz.ntmps69
  go_wp2_with fail
  go_ret
  exact ⟨ret_b55 HR.out, rfl⟩
 ·skip
  have k0 : (48 : Int) ≤ c.toNat := by omega
  have k1 : ¬ (c.toNat : Int) ≤ 57 := by omega
  have k2 : ¬ (97 : Int) ≤ c.toNat := by omega
  have k3 : (c.toNat : Int) ≤ 122 := by omega
  have k4 : (65 : Int) ≤ c.toNat := by omega
  have k5 : ¬ (c.toNat : Int) ≤ 90 := by omega
  have HR := zi (show false = R by rw [Hc.out]; simp [k0, k1, k2, k3, k4, k5])
  clear h hlt Hc
  go_enter Tryz.func69, Tryz.ntmps69
  go_wp2_with fail
  go_ret
  exact ⟨ret_b55 HR.out, rfl⟩
 ·skip
  have k0 : (48 : Int) ≤ c.toNat := by omega
  have k1 : ¬ (c.toNat : Int) ≤ 57 := by omega
  have k2 : (97 : Int) ≤ c.toNat := by omega
  have k3 : (c.toNat : Int) ≤ 122 := by omega
  have k4 : (65 : Int) ≤ c.toNat := by omega
  have k5 : ¬ (c.toNat : Int) ≤ 90 := by omega
  have HR := zi (show true = R by rw [Hc.out]; simp [k0, k1, k2, k3, k4, k5])
  clear h hlt Hc
  go_enter Tryz.func69, Tryz.ntmps69
  go_wp2_with fail
  go_ret
  exact ⟨ret_b55 HR.out, rfl⟩
 ·skip
  have k0 : (48 : Int) ≤ c.toNat := by omega
  have k1 : ¬ (c.toNat : Int) ≤ 57 := by omega
  have k2 : (97 : Int) ≤ c.toNat := by omega
  have k3 : ¬ (c.toNat : Int) ≤ 122 := by omega
  have k4 : (65 : Int) ≤ c.toNat := by omega
  have k5 : ¬ (c.toNat : Int) ≤ 90 := by omega
  have HR := zi (show false = R by rw [Hc.out]; simp [k0, k1, k2, k3, k4, k5])
  clear h hlt Hc
  go_enter Tryz.func69, Tryz.ntmps69
  go_wp2_with fail
  go_ret
  exact ⟨ret_b55 HR.out, rfl⟩
theorem adr_unreserved (c : UInt8) (w : World) : Calls Tryz.prog 133 #[.int .u8 c.toNat] w fun e w' => e = .returned (.bool (unresC c)) ∧ w' = w := by
 have Hc := zi (unres_iff c)
 have HA := zi (adr_alnum c w)
 generalize unresC c = R at *
 generalize alnumC c = a at *
 cases a
 rotate_left
 ·have HR := zi (show true = R by rw [Hc.out]; rfl)
  go_enter Tryz.func133, Tryz.ntmps133
  go_wp2_with fail
  refine HA.out.mono ?_; rintro e w1 ⟨rfl, rfl⟩
  go_wp2_with fail
  go_ret
  exact ⟨ret_b55 HR.out, rfl⟩
 cases e0 : ((c.toNat : Int) == 45)
 rotate_left
 ·have HR := zi (show true = R by rw [Hc.out, e0]; rfl)
  go_enter Tryz.func133, Tryz.ntmps133
  go_wp2_with fail
  refine HA.out.mono ?_; rintro e w1 ⟨rfl, rfl⟩
  go_wp2_with fail
  go_ret
  exact ⟨ret_b55 HR.out, rfl⟩
 cases e1 : ((c.toNat : Int) == 46)
 rotate_left
 ·have HR := zi (show true = R by rw [Hc.out, e0, e1]; rfl)
  go_enter Tryz.func133, Tryz.ntmps133
  go_wp2_with fail
  refine HA.out.mono ?_; rintro e w1 ⟨rfl, rfl⟩
  go_wp2_with fail
  go_ret
  exact ⟨ret_b55 HR.out, rfl⟩
 cases e2 : ((c.toNat : Int) == 95)
 rotate_left
 ·have HR := zi (show true = R by rw [Hc.out, e0, e1, e2]; rfl)
  go_enter Tryz.func133, Tryz.ntmps133
  go_wp2_with fail
  refine HA.out.mono ?_; rintro e w1 ⟨rfl, rfl⟩
  go_wp2_with fail
  go_ret
  exact ⟨ret_b55 HR.out, rfl⟩
 cases e3 : ((c.toNat : Int) == 126)
 rotate_left
 ·have HR := zi (show true = R by rw [Hc.out, e0, e1, e2, e3]; rfl)
  go_enter Tryz.func133, Tryz.ntmps133
  go_wp2_with fail
  refine HA.out.mono ?_; rintro e w1 ⟨rfl, rfl⟩
  go_wp2_with fail
  go_ret
  exact ⟨ret_b55 HR.out, rfl⟩
 have HR := zi (show false = R by rw [Hc.out, e0, e1, e2, e3]; rfl)
 go_enter Tryz.func133, Tryz.ntmps133
 go_wp2_with fail
 refine HA.out.mono ?_; rintro e w1 ⟨rfl, rfl⟩
 go_wp2_with fail
 go_ret
 exact ⟨ret_b55 HR.out, rfl⟩
theorem hex_iff (c : UInt8) : hexV c = if (decide ((48 : Int) ≤ c.toNat) && decide ((c.toNat : Int) ≤ 57)) = true then (c.toNat : Int) - 48 else if (decide ((97 : Int) ≤ c.toNat) && decide ((c.toNat : Int) ≤ 102)) = true then (c.toNat : Int) - 97 + 10 else if (decide ((65 : Int) ≤ c.toNat) && decide ((c.toNat : Int) ≤ 70)) = true then (c.toNat : Int) - 65 + 10 else -1 := by
 unfold hexV; rw [c8_le, c8_le, c8_le, c8_le, c8_le, c8_le]; rfl
theorem adr_digit (c : UInt8) (w : World) : Calls Tryz.prog 134 #[.int .u8 c.toNat] w fun e w' => e = .returned (.int .i64 (hexV c)) ∧ w' = w := by
 have hlt : (c.toNat : Int) < 256 := by have := c.toNat_lt; omega
 have Hc := zi (hex_iff c)
 have hcases : ((c.toNat : Int) ≤ 47) ∨ ((48 : Int) ≤ c.toNat ∧ (c.toNat : Int) ≤ 57) ∨ ((58 : Int) ≤ c.toNat ∧ (c.toNat : Int) ≤ 64) ∨ ((65 : Int) ≤ c.toNat ∧ (c.toNat : Int) ≤ 70) ∨ ((71 : Int) ≤ c.toNat ∧ (c.toNat : Int) ≤ 96) ∨ ((97 : Int) ≤ c.toNat ∧ (c.toNat : Int) ≤ 102) ∨ ((103 : Int) ≤ c.toNat) := by omega
 generalize hexV c = R at *
 rcases hcases with h | h | h | h | h | h | h
 ·skip
  have k0 : ¬ (48 : Int) ≤ c.toNat := by omega
  have k1 : (c.toNat : Int) ≤ 57 := by omega
  have k2 : ¬ (97 : Int) ≤ c.toNat := by omega
  have k3 : (c.toNat : Int) ≤ 102 := by omega
  have k4 : ¬ (65 : Int) ≤ c.toNat := by omega
  have k5 : (c.toNat : Int) ≤ 70 := by omega
  have HR := zi (show -1 = R by rw [Hc.out]; simp [k0, k1, k2, k3, k4, k5])
  clear Hc
  go_enter Tryz.func134, Tryz.ntmps134
  go_wp2_with fail
  go_ret
  exact ⟨ret_i55 HR.out, rfl⟩
 ·skip
  have k0 : (48 : Int) ≤ c.toNat := by omega
  have k1 : (c.toNat : Int) ≤ 57 := by omega
  have k2 : ¬ (97 : Int) ≤ c.toNat := by omega
  have k3 : (c.toNat : Int) ≤ 102 := by omega
  have k4 : ¬ (65 : Int) ≤ c.toNat := by omega
  have k5 : (c.toNat : Int) ≤ 70 := by omega
  have HR := zi (show (c.toNat : Int) - 48 = R by rw [Hc.out]; simp [k0, k1, k2, k3, k4, k5])
  have hw8 : IntKind.u8.wrap ((c.toNat : Int) - 48) = (c.toNat : Int) - 48 := IntWalk.u8_in _ (by omega)
  clear Hc
  go_enter Tryz.func134, Tryz.ntmps134
  go_wp2_with fail
  go_ret
  exact ⟨ret_i55 HR.out, rfl⟩
 ·skip
  have k0 : (48 : Int) ≤ c.toNat := by omega
  have k1 : ¬ (c.toNat : Int) ≤ 57 := by omega
  have k2 : ¬ (97 : Int) ≤ c.toNat := by omega
  have k3 : (c.toNat : Int) ≤ 102 := by omega
  have k4 : ¬ (65 : Int) ≤ c.toNat := by omega
  have k5 : (c.toNat : Int) ≤ 70 := by omega
  have HR := zi (show -1 = R by rw [Hc.out]; simp [k0, k1, k2, k3, k4, k5])
  clear Hc
  go_enter Tryz.func134, Tryz.ntmps134
  go_wp2_with fail
  go_ret
  exact ⟨ret_i55 HR.out, rfl⟩
 ·skip
  have k0 : (48 : Int) ≤ c.toNat := by omega
  have k1 : ¬ (c.toNat : Int) ≤ 57 := by omega
  have k2 : ¬ (97 : Int) ≤ c.toNat := by omega
  have k3 : (c.toNat : Int) ≤ 102 := by omega
  have k4 : (65 : Int) ≤ c.toNat := by omega
  have k5 : (c.toNat : Int) ≤ 70 := by omega
  have HR := zi (show (c.toNat : Int) - 65 + 10 = R by rw [Hc.out]; simp [k0, k1, k2, k3, k4, k5])
  have hw8 : IntKind.u8.wrap ((c.toNat : Int) - 65) = (c.toNat : Int) - 65 := IntWalk.u8_in _ (by omega)
  clear Hc
  go_enter Tryz.func134, Tryz.ntmps134
  go_wp2_with fail
  go_ret
  exact ⟨ret_i55 HR.out, rfl⟩
 ·skip
  have k0 : (48 : Int) ≤ c.toNat := by omega
  have k1 : ¬ (c.toNat : Int) ≤ 57 := by omega
  have k2 : ¬ (97 : Int) ≤ c.toNat := by omega
  have k3 : (c.toNat : Int) ≤ 102 := by omega
  have k4 : (65 : Int) ≤ c.toNat := by omega
  have k5 : ¬ (c.toNat : Int) ≤ 70 := by omega
  have HR := zi (show -1 = R by rw [Hc.out]; simp [k0, k1, k2, k3, k4, k5])
  clear Hc
  go_enter Tryz.func134, Tryz.ntmps134
  go_wp2_with fail
  go_ret
  exact ⟨ret_i55 HR.out, rfl⟩
 ·skip
  have k0 : (48 : Int) ≤ c.toNat := by omega
  have k1 : ¬ (c.toNat : Int) ≤ 57 := by omega
  have k2 : (97 : Int) ≤ c.toNat := by omega
  have k3 : (c.toNat : Int) ≤ 102 := by omega
  have k4 : (65 : Int) ≤ c.toNat := by omega
  have k5 : ¬ (c.toNat : Int) ≤ 70 := by omega
  have HR := zi (show (c.toNat : Int) - 97 + 10 = R by rw [Hc.out]; simp [k0, k1, k2, k3, k4, k5])
  have hw8 : IntKind.u8.wrap ((c.toNat : Int) - 97) = (c.toNat : Int) - 97 := IntWalk.u8_in _ (by omega)
  clear Hc
  go_enter Tryz.func134, Tryz.ntmps134
  go_wp2_with fail
  go_ret
  exact ⟨ret_i55 HR.out, rfl⟩
 ·skip
  have k0 : (48 : Int) ≤ c.toNat := by omega
  have k1 : ¬ (c.toNat : Int) ≤ 57 := by omega
  have k2 : (97 : Int) ≤ c.toNat := by omega
  have k3 : ¬ (c.toNat : Int) ≤ 102 := by omega
  have k4 : (65 : Int) ≤ c.toNat := by omega
  have k5 : ¬ (c.toNat : Int) ≤ 70 := by omega
  have HR := zi (show -1 = R by rw [Hc.out]; simp [k0, k1, k2, k3, k4, k5])
  clear Hc
  go_enter Tryz.func134, Tryz.ntmps134
  go_wp2_with fail
  go_ret
  exact ⟨ret_i55 HR.out, rfl⟩
end Go.Proofs.YtmckbcbdnckngaaGreatDoor

namespace Go.Proofs.YtmckbcbdnckngaaGreatDoor
open Go.RowKit

def nrmAt (s : ByteArray) (k : Nat) : Bs × Bool := (s.data.toList.take k).foldl stepN ([], false)
theorem nrm_step {s : ByteArray} {k : Nat} (h : k < s.size) : nrmAt s (k + 1) = stepN (nrmAt s k) s[k] := by
 unfold nrmAt
 rw [take_step _ k (by simpa using h), List.foldl_append]; rfl
theorem nrm_end (s : ByteArray) : nrmV s = ⟨(nrmAt s s.size).1.toArray⟩ := by
 unfold nrmV nrmAt; rw [List.take_of_length_le (by simp)]
theorem stepN_len (a : Bs × Bool) (c : UInt8) : (stepN a c).1.length ≤ a.1.length + 2 := by
 unfold stepN
 split
 ·show a.1.length ≤ _; omega
 ·rw [List.length_append]; split <;> simp
theorem nrm_len (s : ByteArray) : ∀ k, (nrmAt s k).1.length ≤ 2 * k := by
 intro k
 induction k with
 | zero => simp [nrmAt]
 | succ k ih =>
  rcases Nat.lt_or_ge k s.size with h | h
  ·rw [nrm_step h]; have := stepN_len (nrmAt s k) s[k]; omega
  ·have : nrmAt s (k + 1) = nrmAt s k := by
    unfold nrmAt
    rw [List.take_of_length_le (by simp; omega), List.take_of_length_le (by simp; omega)]
   rw [this]; omega
def bcs (l : Bs) : List Value := l.map fun b => .int .u8 (b.toNat : Int)
theorem bcs_app (a b : Bs) : bcs (a ++ b) = bcs a ++ bcs b := List.map_append
theorem bcs_by (l : Bs) : byCells ⟨l.toArray⟩ = bcs l := by unfold byCells bcs; simp
theorem bcs_one (l : Bs) : ∀ u ∈ bcs l, u.oneCell' = true := by
 intro u hu; simp [bcs] at hu; obtain ⟨a, _, rfl⟩ := hu; rfl
theorem stepN_blank {a : Bs × Bool} {c : UInt8} (h : (c == 32 || c == 9) = true) : stepN a c = (a.1, true) := by unfold stepN; rw [h]; rfl
theorem stepN_sign {a : Bs × Bool} {c : UInt8} (h : (c == 32 || c == 9) = false) : stepN a c = ((if a.2 && !a.1.isEmpty then a.1 ++ [32] else a.1) ++ [if c < 32 || c == 127 then 63 else c], false) := by
 unfold stepN; rw [h]; rfl
theorem vr_normal (s : ByteArray) (w : World) (hs : s.size ≤ 1048576) :
  Calls Tryz.prog 54 #[.string s] w fun e w' => e = .returned (.string (nrmV s)) ∧ Ext w w' := by
 have hb := fun w => run_bytes_of_string (P := Tryz.prog) w 9 23 5 s Tryz.underlying9 Tryz.underlying23 Tryz.underlying5
 go_enter Tryz.func54, Tryz.ntmps54
 go_wp2_with fail
 clear hb
 generalize hcap : grownCap w s.size 0 5 = cap
 have hcs : s.size ≤ cap := by rw [← hcap]; exact grownCap_ge _ _ _ _
 clear hcap
 have HC := zi (show ∀ q (hq : q < s.size), (w.alloc (.cells (bytesRow s cap) 5 ((bytesRow s cap).size, (bytesRow s cap).size + 1))).drew.cell? ⟨w.heap.size, q, none⟩ = some (.int .u8 (s[q].toNat : Int)) from fun q hq => by
  show (w.alloc _).cell? _ = _
  rw [World.cell?_alloc_mark, bytesRow_at s cap q hq]; rfl)
 have HE := zi (((Ext.refl w).alloc (.cells (bytesRow s cap) 5 ((bytesRow s cap).size, (bytesRow s cap).size + 1))).drew)
 generalize (w.alloc (.cells (bytesRow s cap) 5 ((bytesRow s cap).size, (bytesRow s cap).size + 1))).drew = W1 at *
 generalize w.heap.size = b1 at *
 go_loopw [3, 4, 10] (fun v bl i wr => ∃ k A' c' m, k ≤ s.size ∧ i = .int .i64 (k : Nat) ∧ v = .slice A' m c' ∧ bl = .bool (nrmAt s k).2 ∧ wr.ownsRow W1.heap.size 5 1 (.slice A' m c') m (bcs (nrmAt s k).1) ∧ m ≤ c' ∧ Ext W1 wr) (fun _ _ i _ => s.size - (intOf i).toNat)
 case atStart => exact ⟨0, none, 0, 0, Nat.zero_le _, rfl, rfl, rfl, World.ownsRow_nil _ _ _ _, Nat.le_refl _, Ext.refl _⟩
 case round =>
  obtain ⟨k, A', c', m, hk, rfl, rfl, rfl, hown, hmc, hbr⟩ := hrel
  have hm : (nrmAt s k).1.length = m := by have := hown.1; simpa [bcs] using this
  have hmk := nrm_len s k
  by_cases hlt : k < s.size
  ·have hc0 : wr.cell? ⟨b1, k, none⟩ = some (.int .u8 (s[k].toNat : Int)) := hbr.cell (HC.out k hlt)
   have Hst := zi (nrm_step hlt)
   have Hbl := zi (show (s[k] == 32 || s[k] == 9) = true → stepN (nrmAt s k) s[k] = ((nrmAt s k).1, true) from stepN_blank)
   have Hsg := zi (show (s[k] == 32 || s[k] == 9) = false → stepN (nrmAt s k) s[k] = ((if (nrmAt s k).2 && !(nrmAt s k).1.isEmpty then (nrmAt s k).1 ++ [32] else (nrmAt s k).1) ++ [if s[k] < 32 || s[k] == 127 then 63 else s[k]], false) from stepN_sign)
   have hee : (nrmAt s k).1.isEmpty = decide (m = 0) := by rw [← hm]; cases (nrmAt s k).1 <;> simp
   have e32 := c8_eq s[k] 32; have e9 := c8_eq s[k] 9; have e127 := c8_eq s[k] 127
   have l32 : (decide (s[k] < 32)) = decide ((s[k].toNat : Int) < 32) := by congr 1; rw [UInt8.lt_iff_toNat_lt]; exact propext ⟨fun h => by have : s[k].toNat < 32 := h; omega, fun h => by show s[k].toNat < 32; omega⟩
   generalize hX : nrmAt s k = X at *
   obtain ⟨X, bl⟩ := X
   have HX := zi (⟨hm, hmk, hee⟩ : _ ∧ _ ∧ _)
   have HEq := zi (⟨e32, e9, e127, l32⟩ : _ ∧ _ ∧ _ ∧ _)
   clear hX hm hmk hee e32 e9 e127 l32
   dsimp only at *
   cases h32 : ((s[k].toNat : Int) == 32)
   rotate_left
   ·skip
    have hbl : (s[k] == 32 || s[k] == 9) = true := by rw [show (s[k] == (32 : UInt8)) = true from HEq.out.1.trans h32]; rfl
    have HN := zi (show nrmAt s (k + 1) = (X, true) by rw [Hst.out, Hbl.out hbl])
    clear Hst Hsg Hbl
    go_wp2_with fail
    go_roundw
    case rel => exact ⟨k + 1, A', c', m, by omega, by go_num, rfl, by rw [HN.out], by rw [HN.out]; exact hown, hmc, hbr⟩
    case measure => simp [intOf]; omega
   cases h9 : ((s[k].toNat : Int) == 9)
   rotate_left
   ·skip
    have hbl : (s[k] == 32 || s[k] == 9) = true := by rw [show (s[k] == (9 : UInt8)) = true from HEq.out.2.1.trans h9]; simp
    have HN := zi (show nrmAt s (k + 1) = (X, true) by rw [Hst.out, Hbl.out hbl])
    clear Hst Hsg Hbl
    go_wp2_with fail
    go_roundw
    case rel => exact ⟨k + 1, A', c', m, by omega, by go_num, rfl, by rw [HN.out], by rw [HN.out]; exact hown, hmc, hbr⟩
    case measure => simp [intOf]; omega
   have hsg : (s[k] == 32 || s[k] == 9) = false := by rw [show (s[k] == (32 : UInt8)) = false from HEq.out.1.trans h32, show (s[k] == (9 : UInt8)) = false from HEq.out.2.1.trans h9]; rfl
   have hee := HX.out.2.2
   cases bl
   ·skip
    by_cases hl : (s[k].toNat : Int) < 32
    ·skip
     have hd : decide (s[k] < 32) = true := HEq.out.2.2.2.trans (decide_eq_true hl)
     have hd2 : s[k] < 32 := of_decide_eq_true hd
     have HN := zi (show nrmAt s (k + 1) = (X ++ [63], false) by rw [Hst.out, Hsg.out hsg]; simp [hee, hd2])
     clear Hst Hsg Hbl
     have hm := HX.out.1; have hmk := HX.out.2.1
     go_wp2_with (first
      | (at_builtin; refine wpList_app _ rfl (.tmp 35) (.tmp 37) 23 rfl W1 5 _ 1 1 Tryz.underlying23 infoU8 rfl (by decide) _ _ _ rfl (hown.alloc _) _ 1 1 [.int .u8 63] rfl (Rd.one _ _ _ (by simp)) (by intro u hu; simp at hu; subst hu; rfl) (hbr.alloc _) (by omega) (by decide) ?_; intro A3 c3 w3 hown3 hb3 hle3))
     go_roundw
     case rel => exact ⟨k + 1, A3, c3, m + 1, by omega, by go_num, rfl, by rw [HN.out], by rw [HN.out]; exact (by simpa [bcs] using hown3), hle3, hb3⟩
     case measure => simp [intOf]; omega
    have hd2 : ¬ s[k] < 32 := of_decide_eq_false (HEq.out.2.2.2.trans (decide_eq_false hl))
    cases h127 : ((s[k].toNat : Int) == 127)
    ·skip
     have hd3 : (s[k] == (127 : UInt8)) = false := HEq.out.2.2.1.trans h127
     have HN := zi (show nrmAt s (k + 1) = (X ++ [s[k]], false) by rw [Hst.out, Hsg.out hsg]; simp [hee, hd2, hd3])
     clear Hst Hsg Hbl
     have hm := HX.out.1; have hmk := HX.out.2.1
     go_wp2_with (first
      | (at_builtin; refine wpList_app _ rfl (.tmp 35) (.tmp 37) 23 rfl W1 5 _ 1 1 Tryz.underlying23 infoU8 rfl (by decide) _ _ _ rfl (hown.alloc _) _ 1 1 [.int .u8 (s[k].toNat : Int)] rfl (Rd.one _ _ _ (by simp)) (by intro u hu; simp at hu; subst hu; rfl) (hbr.alloc _) (by omega) (by decide) ?_; intro A3 c3 w3 hown3 hb3 hle3))
     go_roundw
     case rel => exact ⟨k + 1, A3, c3, m + 1, by omega, by go_num, rfl, by rw [HN.out], by rw [HN.out]; exact (by simpa [bcs] using hown3), hle3, hb3⟩
     case measure => simp [intOf]; omega
    ·skip
     have hd3 : (s[k] == (127 : UInt8)) = true := HEq.out.2.2.1.trans h127
     have HN := zi (show nrmAt s (k + 1) = (X ++ [63], false) by rw [Hst.out, Hsg.out hsg]; simp [hee, hd2, hd3])
     clear Hst Hsg Hbl
     have hm := HX.out.1; have hmk := HX.out.2.1
     go_wp2_with (first
      | (at_builtin; refine wpList_app _ rfl (.tmp 35) (.tmp 37) 23 rfl W1 5 _ 1 1 Tryz.underlying23 infoU8 rfl (by decide) _ _ _ rfl (hown.alloc _) _ 1 1 [.int .u8 63] rfl (Rd.one _ _ _ (by simp)) (by intro u hu; simp at hu; subst hu; rfl) (hbr.alloc _) (by omega) (by decide) ?_; intro A3 c3 w3 hown3 hb3 hle3))
     go_roundw
     case rel => exact ⟨k + 1, A3, c3, m + 1, by omega, by go_num, rfl, by rw [HN.out], by rw [HN.out]; exact (by simpa [bcs] using hown3), hle3, hb3⟩
     case measure => simp [intOf]; omega
   rcases Nat.eq_zero_or_pos m with hm0 | hm0
   ·skip
    have he1 : X.isEmpty = true := by rw [hee, decide_eq_true hm0]
    subst hm0
    by_cases hl : (s[k].toNat : Int) < 32
    ·skip
     have hd : decide (s[k] < 32) = true := HEq.out.2.2.2.trans (decide_eq_true hl)
     have hd2 : s[k] < 32 := of_decide_eq_true hd
     have HN := zi (show nrmAt s (k + 1) = (X ++ [63], false) by rw [Hst.out, Hsg.out hsg]; simp [he1, hd2])
     clear Hst Hsg Hbl
     have hm := HX.out.1; have hmk := HX.out.2.1
     go_wp2_with (first
      | (at_builtin; refine wpList_app _ rfl (.tmp 35) (.tmp 37) 23 rfl W1 5 _ 1 1 Tryz.underlying23 infoU8 rfl (by decide) _ _ _ rfl (hown.alloc _) _ 1 1 [.int .u8 63] rfl (Rd.one _ _ _ (by simp)) (by intro u hu; simp at hu; subst hu; rfl) (hbr.alloc _) (by omega) (by decide) ?_; intro A3 c3 w3 hown3 hb3 hle3))
     go_roundw
     case rel => exact ⟨k + 1, A3, c3, 0 + 1, by omega, by go_num, rfl, by rw [HN.out], by rw [HN.out]; exact (by simpa [bcs] using hown3), hle3, hb3⟩
     case measure => simp [intOf]; omega
    have hd2 : ¬ s[k] < 32 := of_decide_eq_false (HEq.out.2.2.2.trans (decide_eq_false hl))
    cases h127 : ((s[k].toNat : Int) == 127)
    ·skip
     have hd3 : (s[k] == (127 : UInt8)) = false := HEq.out.2.2.1.trans h127
     have HN := zi (show nrmAt s (k + 1) = (X ++ [s[k]], false) by rw [Hst.out, Hsg.out hsg]; simp [he1, hd2, hd3])
     clear Hst Hsg Hbl
     have hm := HX.out.1; have hmk := HX.out.2.1
     go_wp2_with (first
      | (at_builtin; refine wpList_app _ rfl (.tmp 35) (.tmp 37) 23 rfl W1 5 _ 1 1 Tryz.underlying23 infoU8 rfl (by decide) _ _ _ rfl (hown.alloc _) _ 1 1 [.int .u8 (s[k].toNat : Int)] rfl (Rd.one _ _ _ (by simp)) (by intro u hu; simp at hu; subst hu; rfl) (hbr.alloc _) (by omega) (by decide) ?_; intro A3 c3 w3 hown3 hb3 hle3))
     go_roundw
     case rel => exact ⟨k + 1, A3, c3, 0 + 1, by omega, by go_num, rfl, by rw [HN.out], by rw [HN.out]; exact (by simpa [bcs] using hown3), hle3, hb3⟩
     case measure => simp [intOf]; omega
    ·skip
     have hd3 : (s[k] == (127 : UInt8)) = true := HEq.out.2.2.1.trans h127
     have HN := zi (show nrmAt s (k + 1) = (X ++ [63], false) by rw [Hst.out, Hsg.out hsg]; simp [he1, hd2, hd3])
     clear Hst Hsg Hbl
     have hm := HX.out.1; have hmk := HX.out.2.1
     go_wp2_with (first
      | (at_builtin; refine wpList_app _ rfl (.tmp 35) (.tmp 37) 23 rfl W1 5 _ 1 1 Tryz.underlying23 infoU8 rfl (by decide) _ _ _ rfl (hown.alloc _) _ 1 1 [.int .u8 63] rfl (Rd.one _ _ _ (by simp)) (by intro u hu; simp at hu; subst hu; rfl) (hbr.alloc _) (by omega) (by decide) ?_; intro A3 c3 w3 hown3 hb3 hle3))
     go_roundw
     case rel => exact ⟨k + 1, A3, c3, 0 + 1, by omega, by go_num, rfl, by rw [HN.out], by rw [HN.out]; exact (by simpa [bcs] using hown3), hle3, hb3⟩
     case measure => simp [intOf]; omega
   have he1 : X.isEmpty = false := by rw [hee, decide_eq_false (by omega)]
   by_cases hl : (s[k].toNat : Int) < 32
   ·skip
    have hd : decide (s[k] < 32) = true := HEq.out.2.2.2.trans (decide_eq_true hl)
    have hd2 : s[k] < 32 := of_decide_eq_true hd
    have HN := zi (show nrmAt s (k + 1) = ((X ++ [32]) ++ [63], false) by rw [Hst.out, Hsg.out hsg]; simp [he1, hd2])
    clear Hst Hsg Hbl
    have hm := HX.out.1; have hmk := HX.out.2.1
    go_wp2_with (first
     | (at_builtin; refine wpList_app _ rfl (.tmp 26) (.tmp 27) 23 rfl W1 5 _ 1 1 Tryz.underlying23 infoU8 rfl (by decide) _ _ _ rfl (hown.alloc _) _ 1 1 [.int .u8 32] rfl (Rd.one _ _ _ (by simp)) (by intro u hu; simp at hu; subst hu; rfl) (hbr.alloc _) (by omega) (by decide) ?_; intro A2 c2 w2 hown2 hb2 hle2)
     | (at_builtin; refine wpList_app _ rfl (.tmp 35) (.tmp 37) 23 rfl W1 5 _ 1 1 Tryz.underlying23 infoU8 rfl (by decide) _ _ _ rfl (hown2.alloc _) _ 1 1 [.int .u8 63] rfl (Rd.one _ _ _ (by simp)) (by intro u hu; simp at hu; subst hu; rfl) (hb2.alloc _) (by omega) (by decide) ?_; intro A3 c3 w3 hown3 hb3 hle3))
    go_roundw
    case rel => exact ⟨k + 1, A3, c3, m + 1 + 1, by omega, by go_num, rfl, by rw [HN.out], by rw [HN.out]; exact (by simpa [bcs] using hown3), hle3, hb3⟩
    case measure => simp [intOf]; omega
   have hd2 : ¬ s[k] < 32 := of_decide_eq_false (HEq.out.2.2.2.trans (decide_eq_false hl))
   cases h127 : ((s[k].toNat : Int) == 127)
   ·skip
    have hd3 : (s[k] == (127 : UInt8)) = false := HEq.out.2.2.1.trans h127
    have HN := zi (show nrmAt s (k + 1) = ((X ++ [32]) ++ [s[k]], false) by rw [Hst.out, Hsg.out hsg]; simp [he1, hd2, hd3])
    clear Hst Hsg Hbl
    have hm := HX.out.1; have hmk := HX.out.2.1
    go_wp2_with (first
     | (at_builtin; refine wpList_app _ rfl (.tmp 26) (.tmp 27) 23 rfl W1 5 _ 1 1 Tryz.underlying23 infoU8 rfl (by decide) _ _ _ rfl (hown.alloc _) _ 1 1 [.int .u8 32] rfl (Rd.one _ _ _ (by simp)) (by intro u hu; simp at hu; subst hu; rfl) (hbr.alloc _) (by omega) (by decide) ?_; intro A2 c2 w2 hown2 hb2 hle2)
     | (at_builtin; refine wpList_app _ rfl (.tmp 35) (.tmp 37) 23 rfl W1 5 _ 1 1 Tryz.underlying23 infoU8 rfl (by decide) _ _ _ rfl (hown2.alloc _) _ 1 1 [.int .u8 (s[k].toNat : Int)] rfl (Rd.one _ _ _ (by simp)) (by intro u hu; simp at hu; subst hu; rfl) (hb2.alloc _) (by omega) (by decide) ?_; intro A3 c3 w3 hown3 hb3 hle3))
    go_roundw
    case rel => exact ⟨k + 1, A3, c3, m + 1 + 1, by omega, by go_num, rfl, by rw [HN.out], by rw [HN.out]; exact (by simpa [bcs] using hown3), hle3, hb3⟩
    case measure => simp [intOf]; omega
   ·skip
    have hd3 : (s[k] == (127 : UInt8)) = true := HEq.out.2.2.1.trans h127
    have HN := zi (show nrmAt s (k + 1) = ((X ++ [32]) ++ [63], false) by rw [Hst.out, Hsg.out hsg]; simp [he1, hd2, hd3])
    clear Hst Hsg Hbl
    have hm := HX.out.1; have hmk := HX.out.2.1
    go_wp2_with (first
     | (at_builtin; refine wpList_app _ rfl (.tmp 26) (.tmp 27) 23 rfl W1 5 _ 1 1 Tryz.underlying23 infoU8 rfl (by decide) _ _ _ rfl (hown.alloc _) _ 1 1 [.int .u8 32] rfl (Rd.one _ _ _ (by simp)) (by intro u hu; simp at hu; subst hu; rfl) (hbr.alloc _) (by omega) (by decide) ?_; intro A2 c2 w2 hown2 hb2 hle2)
     | (at_builtin; refine wpList_app _ rfl (.tmp 35) (.tmp 37) 23 rfl W1 5 _ 1 1 Tryz.underlying23 infoU8 rfl (by decide) _ _ _ rfl (hown2.alloc _) _ 1 1 [.int .u8 63] rfl (Rd.one _ _ _ (by simp)) (by intro u hu; simp at hu; subst hu; rfl) (hb2.alloc _) (by omega) (by decide) ?_; intro A3 c3 w3 hown3 hb3 hle3))
    go_roundw
    case rel => exact ⟨k + 1, A3, c3, m + 1 + 1, by omega, by go_num, rfl, by rw [HN.out], by rw [HN.out]; exact (by simpa [bcs] using hown3), hle3, hb3⟩
    case measure => simp [intOf]; omega
  ·obtain rfl : k = s.size := by omega
   have Hv := zi (nrm_end s)
   have hcv := conv_own (X := ⟨(nrmAt s s.size).1.toArray⟩) (by rw [bcs_by]; exact hown)
   rw [← Hv.out] at hcv
   clear hlt hk hm hmk hown
   go_wp2_with fail
   go_ret
   exact ⟨rfl, HE.out.trans hbr⟩
end Go.Proofs.YtmckbcbdnckngaaGreatDoor

namespace Go.Proofs.YtmckbcbdnckngaaGreatDoor
open Go.RowKit

theorem infoFld : (Tryz.prog.info? 51).map (fun i => (i.zero, i.size, i.bytes)) = some (some (.agg #[.string ⟨#[]⟩, .string ⟨#[]⟩]), 2, 32) := by kernel_rfl
theorem own_lit (w : World) (cs : Array Value) (e : TypeId) {b : Nat} (hb : b = w.heap.size) (k n : Nat) (h : cs.size = n * k) (hn : n ≤ maxLen) :
  (w.alloc (.cells cs e)).ownsRow w.heap.size e k (.slice (some ⟨b, 0, none⟩) n n) n cs.toList := by
 subst hb
 exact ⟨by simpa using h, .inr ⟨w.heap.size, n, cs, rfl, Nat.le_refl _, heap_alloc_new w _, Nat.le_refl _, hn, h, List.take_of_length_le (by rw [Array.length_toList, h]; exact Nat.le_refl _)⟩⟩
theorem map_step {α β : Type} (g : α → β) (l : List α) (k : Nat) (h : k < l.length) : (l.take (k + 1)).map g = (l.take k).map g ++ [g l[k]] := by
 rw [take_step l k h, List.map_append]; rfl

theorem cells_snoc (X : List ByteArray) (x : ByteArray) : strCells (X ++ [x]) = strCells X ++ [.string x] := List.map_append
def Sep (A : Option Addr) (n : Nat) (v : Value) : Prop := 0 < n → ∀ b o, A = some ⟨b, o, none⟩ → v.ownBlock ≠ some b
theorem Sep.of_own {w w' : World} {base e k m e' k' n c : Nat} {v : Value} {xs ys : List Value} {A : Option Addr} (hv : w.ownsRow base e k v m xs) (hi : w'.ownsRow w.heap.size e' k' (.slice A n c) n ys) : Sep A n v := by
 intro hn b o hA he
 have hlt := (hv.lt b he).2
 rcases hi.2 with ⟨hh, h0⟩ | ⟨g, cap, cur, hh, hb, _⟩
 ·omega
 ·injection hh with h1
  rw [hA] at h1
  injection h1 with h1
  injection h1 with h1
  omega
theorem Rd.sep {w w' : World} {n : Nat} {A : Option Addr} {ss : List ByteArray} {v : Value} (h : RdS w A n ss) (hg : w.grownBy w' v.ownBlock) (hs : Sep A n v) : RdS w' A n ss := by
 refine ⟨h.1, fun hp => ?_⟩
 obtain ⟨b, o, e, hc⟩ := h.2 hp
 have hn : 0 < n := by have := h.1; omega
 refine ⟨b, o, e, fun j u hu => ?_⟩
 have h1 := hc j u hu
 have hb : b < w.heap.size := World.block_lt_of_cell? w _ h1
 exact (World.cell?_of_block (hg.block b hb (fun hh => hs hn b o e hh.symm))).trans h1
theorem Sep.next {w : World} {n : Nat} {A : Option Addr} {ss : List ByteArray} {v v' : Value} (h : RdS w A n ss) (hs : Sep A n v) (hv : v'.ownBlock = v.ownBlock ∨ v'.ownBlock = some w.heap.size) : Sep A n v' := by
 intro hn b o e
 rcases hv with hv | hv
 ·rw [hv]; exact hs hn b o e
 ·obtain ⟨b', o', e', hc⟩ := h.2 (by have := h.1; omega)
  rw [e] at e'
  injection e' with e'
  injection e' with e1 e2
  have hl := h.1
  have hb : b' < w.heap.size := World.block_lt_of_cell? w _ (hc 0 _ (List.getElem?_eq_getElem (by omega)))
  rw [hv]
  intro hh
  injection hh with hh
  omega

end Go.Proofs.YtmckbcbdnckngaaGreatDoor

namespace Go.Proofs.YtmckbcbdnckngaaGreatDoor
open Go.RowKit

def quoAt (s : ByteArray) (k : Nat) : Bs := 34 :: (s.data.toList.take k).flatMap quoC
theorem quo_step {s : ByteArray} {k : Nat} (h : k < s.size) : quoAt s (k + 1) = quoAt s k ++ quoC s[k] := by
 unfold quoAt
 rw [take_step _ k (by simpa using h), List.flatMap_append]; simp; rfl
theorem quo_end (s : ByteArray) : quoV s = ⟨(quoAt s s.size ++ [34]).toArray⟩ := by
 unfold quoV quoAt; rw [List.take_of_length_le (by simp)]; simp
theorem quoC_yes {c : UInt8} (h : (c == 34 || c == 92) = true) : quoC c = [92, c] := by unfold quoC; rw [h]; rfl
theorem quoC_no {c : UInt8} (h : (c == 34 || c == 92) = false) : quoC c = [c] := by unfold quoC; rw [h]; rfl
theorem quoAt_len (s : ByteArray) : ∀ k, (quoAt s k).length ≤ 2 * k + 1 := by
 intro k
 induction k with
 | zero => simp [quoAt]
 | succ k ih =>
  rcases Nat.lt_or_ge k s.size with h | h
  ·rw [quo_step h, List.length_append]
   have : (quoC s[k]).length ≤ 2 := by unfold quoC; split <;> simp
   omega
  ·have : quoAt s (k + 1) = quoAt s k := by
    unfold quoAt
    rw [List.take_of_length_le (by simp; omega), List.take_of_length_le (by simp; omega)]
   rw [this]; omega
theorem quoV_size (s : ByteArray) : (quoV s).size ≤ 2 * s.size + 2 := by
 rw [quo_end]; show (List.toArray _).size ≤ _
 have := quoAt_len s s.size
 simp; omega
def qtV (s : ByteArray) : Value := if ctlS s then .tuple #[.string ⟨#[]⟩, errV 2] else .tuple #[.string (quoV s), .nilIface]
theorem syn_Quote (s : ByteArray) (w : World) (hs : s.size ≤ 35184372088832) :
  Calls Tryz.prog 55 #[.string s] w fun e w' => e = .returned (qtV s) ∧ Ext w w' := by
 have Hq := zi (show qtV s = if ctlS s then .tuple #[.string ⟨#[]⟩, errV 2] else .tuple #[.string (quoV s), .nilIface] from rfl)
 generalize qtV s = Q at *
 go_enter Tryz.func55, Tryz.ntmps55
 go_wp2_with fail
 refine (syntax_clean s _ (by omega)).mono ?_; rintro e w1 ⟨rfl, hb1⟩
 cases hct : ctlS s
 rotate_left
 ·rw [hct] at Hq
  clear hct
  have hq := Hq.out
  subst hq
  go_wp2_with fail
  go_ret2
  exact ⟨rfl, hb1⟩
 rw [hct] at Hq
 clear hct
 have hown0 := own_lit w1 #[.int .u8 34] 5 rfl 1 1 rfl (by simp [maxLen])
 have HE0 := zi ((Ext.refl w1).alloc (.cells #[.int .u8 34] 5))
 go_wp2_with fail
 go_loopw [4, 13] (fun v i wr => ∃ k A' c' m, k ≤ s.size ∧ i = .int .i64 (k : Nat) ∧ v = .slice A' m c' ∧ wr.ownsRow w1.heap.size 5 1 (.slice A' m c') m (bcs (quoAt s k)) ∧ m ≤ c' ∧ Ext w1 wr) (fun _ i _ => s.size - (intOf i).toNat)
 case atStart => exact ⟨0, _, _, 1, Nat.zero_le _, rfl, rfl, hown0, Nat.le_refl _, HE0.out⟩
 case round =>
  obtain ⟨k, A', c', m, hk, rfl, rfl, hown, hmc, hbr⟩ := hrel
  have hm : (quoAt s k).length = m := by have := hown.1; simpa [bcs] using this
  have hmk := quoAt_len s k
  by_cases hlt : k < s.size
  ·have Hst := zi (quo_step hlt)
   have E34 := zi (c8_eq s[k] 34); have E92 := zi (c8_eq s[k] 92)
   have Hy := zi (@quoC_yes s[k]); have Hn := zi (@quoC_no s[k])
   have hm2 : m ≤ 2 * k + 1 := by omega
   clear hm hmk
   cases h34 : ((s[k].toNat : Int) == 34)
   rotate_left
   ·have hq : (s[k] == 34 || s[k] == 92) = true := by rw [show (s[k] == (34 : UInt8)) = true from E34.out.trans h34]; rfl
    have HN := zi (show quoAt s (k + 1) = quoAt s k ++ [92] ++ [s[k]] by rw [Hst.out, Hy.out hq]; simp)
    clear Hst Hy Hn hq
    go_wp2_with (first
     | (at_builtin; refine wpList_app _ rfl (.tmp 26) (.tmp 27) 23 rfl w1 5 _ 1 1 Tryz.underlying23 infoU8 rfl (by decide) _ _ _ rfl (hown.alloc _) _ 1 1 [.int .u8 92] rfl (Rd.one _ _ _ (by simp)) (by intro u hu; simp at hu; subst hu; rfl) (hbr.alloc _) (by omega) (by decide) ?_; intro A2 c2 w2 hown2 hb2 hle2)
     | (at_builtin; refine wpList_app _ rfl (.tmp 29) (.tmp 33) 23 rfl w1 5 _ 1 1 Tryz.underlying23 infoU8 rfl (by decide) _ _ _ rfl (hown2.alloc _) _ 1 1 [.int .u8 (s[k].toNat : Int)] rfl (Rd.one _ _ _ (by simp)) (by intro u hu; simp at hu; subst hu; rfl) (hb2.alloc _) (by omega) (by decide) ?_; intro A3 c3 w3 hown3 hb3 hle3))
    go_roundw
    case rel => exact ⟨k + 1, A3, c3, m + 1 + 1, by omega, by go_num, rfl, by rw [HN.out]; exact (by simpa [bcs] using hown3), hle3, hb3⟩
    case measure => simp [intOf]; omega
   cases h92 : ((s[k].toNat : Int) == 92)
   rotate_left
   ·have hq : (s[k] == 34 || s[k] == 92) = true := by rw [show (s[k] == (92 : UInt8)) = true from E92.out.trans h92]; simp
    have HN := zi (show quoAt s (k + 1) = quoAt s k ++ [92] ++ [s[k]] by rw [Hst.out, Hy.out hq]; simp)
    clear Hst Hy Hn hq
    go_wp2_with (first
     | (at_builtin; refine wpList_app _ rfl (.tmp 26) (.tmp 27) 23 rfl w1 5 _ 1 1 Tryz.underlying23 infoU8 rfl (by decide) _ _ _ rfl (hown.alloc _) _ 1 1 [.int .u8 92] rfl (Rd.one _ _ _ (by simp)) (by intro u hu; simp at hu; subst hu; rfl) (hbr.alloc _) (by omega) (by decide) ?_; intro A2 c2 w2 hown2 hb2 hle2)
     | (at_builtin; refine wpList_app _ rfl (.tmp 29) (.tmp 33) 23 rfl w1 5 _ 1 1 Tryz.underlying23 infoU8 rfl (by decide) _ _ _ rfl (hown2.alloc _) _ 1 1 [.int .u8 (s[k].toNat : Int)] rfl (Rd.one _ _ _ (by simp)) (by intro u hu; simp at hu; subst hu; rfl) (hb2.alloc _) (by omega) (by decide) ?_; intro A3 c3 w3 hown3 hb3 hle3))
    go_roundw
    case rel => exact ⟨k + 1, A3, c3, m + 1 + 1, by omega, by go_num, rfl, by rw [HN.out]; exact (by simpa [bcs] using hown3), hle3, hb3⟩
    case measure => simp [intOf]; omega
   have hq : (s[k] == 34 || s[k] == 92) = false := by rw [show (s[k] == (34 : UInt8)) = false from E34.out.trans h34, show (s[k] == (92 : UInt8)) = false from E92.out.trans h92]; rfl
   have HN := zi (show quoAt s (k + 1) = quoAt s k ++ [s[k]] by rw [Hst.out, Hn.out hq])
   clear Hst Hy Hn hq
   go_wp2_with (first
    | (at_builtin; refine wpList_app _ rfl (.tmp 29) (.tmp 33) 23 rfl w1 5 _ 1 1 Tryz.underlying23 infoU8 rfl (by decide) _ _ _ rfl (hown.alloc _) _ 1 1 [.int .u8 (s[k].toNat : Int)] rfl (Rd.one _ _ _ (by simp)) (by intro u hu; simp at hu; subst hu; rfl) (hbr.alloc _) (by omega) (by decide) ?_; intro A3 c3 w3 hown3 hb3 hle3))
   go_roundw
   case rel => exact ⟨k + 1, A3, c3, m + 1, by omega, by go_num, rfl, by rw [HN.out]; exact (by simpa [bcs] using hown3), hle3, hb3⟩
   case measure => simp [intOf]; omega
  ·obtain rfl : k = s.size := by omega
   have Hv := zi (quo_end s)
   have hm2 : m ≤ 2 * s.size + 1 := by omega
   clear hlt hk hm hmk
   go_wp2_with (first | (at_builtin; refine wpList_app _ rfl (.tmp 36) (.tmp 37) 23 rfl w1 5 _ 1 1 Tryz.underlying23 infoU8 rfl (by decide) _ _ _ rfl (hown.alloc _) _ 1 1 [.int .u8 34] rfl (Rd.one _ _ _ (by simp)) (by intro u hu; simp at hu; subst hu; rfl) (hbr.alloc _) (by omega) (by decide) ?_; intro A3 c3 w3 hown3 hb3 hle3; have hcv := conv_own (X := ⟨(quoAt s s.size ++ [34]).toArray⟩) (by rw [bcs_by, bcs_app]; exact hown3); rw [← Hv.out] at hcv))
   go_ret2
   exact ⟨by rw [Hq.out]; rfl, hb1.trans hb3⟩
def nmAt (s : ByteArray) (k : Nat) : Int := (s.data.toList.take k).foldl (fun n c => 10 * n + ((c.toNat : Int) - 48)) 0
theorem nm_step {s : ByteArray} {k : Nat} (h : k < s.size) : nmAt s (k + 1) = 10 * nmAt s k + ((s[k].toNat : Int) - 48) := by
 unfold nmAt
 rw [take_step _ k (by simpa using h), List.foldl_append]; rfl
theorem nm_bd (s : ByteArray) (h : s.data.toList.all digC = true) : ∀ k, k ≤ s.size → 0 ≤ nmAt s k ∧ nmAt s k < 10 ^ k := by
 intro k
 induction k with
 | zero => intro _; simp [nmAt]
 | succ k ih =>
  intro hk
  have := ih (by omega)
  rw [nm_step (by omega)]
  have hd : digC s[k] = true := List.all_eq_true.1 h _ (by rw [show s[k] = s.data.toList[k]'(by simp; omega) by simp; rfl]; exact List.getElem_mem _)
  unfold digC at hd
  rw [Bool.and_eq_true, decide_eq_true_eq, decide_eq_true_eq] at hd
  have h1 : (48 : UInt8).toNat ≤ s[k].toNat := hd.1
  have h2 : s[k].toNat ≤ (57 : UInt8).toNat := hd.2
  simp at h1 h2
  rw [show (10 : Int) ^ (k + 1) = 10 * 10 ^ k by rw [Int.pow_succ]; omega]
  omega
theorem p15 {k : Nat} (h : k ≤ 15) : (10 : Int) ^ k ≤ 10 ^ 15 := by
 exact_mod_cast Nat.pow_le_pow_right (by decide) h
theorem nmb_dig {s : ByteArray} (h : s.data.toList.all digC = false) : nmbV s = 0 ∧ nmbE s = 2 := by
 unfold nmbV nmbE; rw [h]; exact ⟨rfl, rfl⟩
theorem nmb_nil {s : ByteArray} (h : s.size = 0) : nmbV s = 0 ∧ nmbE s = 2 := by
 unfold nmbV nmbE; rw [h]; refine ⟨?_, ?_⟩
 ·rw [if_neg (by simp)]
 ·rw [if_pos (by simp)]
theorem nmb_big {s : ByteArray} (hd : s.data.toList.all digC = true) (h : 15 < s.size) : nmbV s = 0 ∧ nmbE s = 5 := by
 unfold nmbV nmbE; rw [hd]; refine ⟨?_, ?_⟩
 ·rw [if_neg (by rw [decide_eq_false (p := s.size ≤ 15) (by omega), Bool.and_false]; simp)]
 ·rw [if_neg (by simp; rintro rfl; simp at h), if_pos (by simpa using h)]
theorem nmb_ok {s : ByteArray} (hd : s.data.toList.all digC = true) (h0 : 0 < s.size) (h : s.size ≤ 15) : nmbV s = nmAt s s.size ∧ nmbE s = 0 := by
 unfold nmbV nmbE nmAt; rw [hd, List.take_of_length_le (by simp)]; refine ⟨?_, ?_⟩
 ·rw [if_pos (by rw [decide_eq_true h0, decide_eq_true h]; rfl)]
 ·rw [if_neg (by simp; rintro rfl; simp at h0), if_neg (by simp; omega)]
theorem nmb_ge (s : ByteArray) : 0 ≤ nmbV s ∧ nmbV s < 10 ^ 15 := by
 by_cases hd : s.data.toList.all digC = true
 ·by_cases h0 : 0 < s.size
  ·by_cases h15 : s.size ≤ 15
   ·rw [(nmb_ok hd h0 h15).1]
    have := nm_bd s hd s.size (Nat.le_refl _)
    exact ⟨this.1, Int.lt_of_lt_of_le this.2 (p15 h15)⟩
   ·rw [(nmb_big hd (by omega)).1]; decide
  ·rw [(nmb_nil (by omega)).1]; decide
 ·rw [(nmb_dig (by simpa using hd)).1]; decide
theorem take_all {p : UInt8 → Bool} {s : ByteArray} {k : Nat} (h : k < s.size) (ha : (s.data.toList.take k).all p = true) (hp : p s[k] = true) : (s.data.toList.take (k + 1)).all p = true := by
 rw [take_step _ k (by simpa using h), List.all_append, ha, Bool.true_and]
 simp only [List.all_cons, List.all_nil, Bool.and_true]
 exact hp
theorem bad_all {p : UInt8 → Bool} {s : ByteArray} {k : Nat} (h : k < s.size) (hp : p s[k] = false) : s.data.toList.all p = false := by
 rw [List.all_eq_false]
 exact ⟨s[k], by rw [show s[k] = s.data.toList[k]'(by simpa using h) by simp; rfl]; exact List.getElem_mem _, by rw [hp]; simp⟩
theorem all_end {p : UInt8 → Bool} {s : ByteArray} (ha : (s.data.toList.take s.size).all p = true) : s.data.toList.all p = true := by
 rwa [List.take_of_length_le (by simp)] at ha
theorem syn_Number (s : ByteArray) (w : World) (hs : s.size ≤ 70368744177664) :
  Calls Tryz.prog 183 #[.string s] w fun e w' => e = .returned (.tuple #[.int .i64 (nmbV s), errV (nmbE s)]) ∧ Ext w w' := by
 have Hdig := zi (@nmb_dig s); have Hnil := zi (@nmb_nil s); have Hbig := zi (@nmb_big s); have Hok := zi (@nmb_ok s)
 generalize nmbV s = RV at *
 generalize nmbE s = RE at *
 go_enter Tryz.func183, Tryz.ntmps183
 go_wp2_with fail
 go_loopw [9] (fun i wr => ∃ k, k ≤ s.size ∧ i = .int .i64 (k : Nat) ∧ (s.data.toList.take k).all digC = true ∧ Ext w wr) (fun i _ => s.size - (intOf i).toNat)
 case atStart => exact ⟨0, Nat.zero_le _, rfl, rfl, Ext.refl _⟩
 case round =>
  obtain ⟨k, hk, rfl, ha, hbr⟩ := hrel
  have Ha := zi ha
  clear ha
  by_cases hlt : k < s.size
  ·have l48 := zi (c8_le 48 s[k]); have l57 := zi (c8_le s[k] 57)
   have Hdg := zi (show digC s[k] = (decide (48 ≤ s[k]) && decide (s[k] ≤ 57)) from rfl)
   have Hyes := zi (fun h => take_all (p := digC) hlt Ha.out h); have Hno := zi (fun h => bad_all (p := digC) (s := s) hlt h)
   by_cases h1 : (s[k].toNat : Int) < 48
   ·have hE := Hdig.out (Hno.out (by rw [Hdg.out, l48.out, decide_eq_false (by simp; omega), Bool.false_and]))
    obtain ⟨rfl, rfl⟩ := hE
    go_wp2_with fail
    go_ret2
    exact ⟨rfl, hbr⟩
   ·by_cases h2 : (57 : Int) < (s[k].toNat : Int)
    ·have hE := Hdig.out (Hno.out (by rw [Hdg.out, l57.out, decide_eq_false (p := (s[k].toNat : Int) ≤ _) (by simp; omega), Bool.and_false]))
     obtain ⟨rfl, rfl⟩ := hE
     go_wp2_with fail
     go_ret2
     exact ⟨rfl, hbr⟩
    ·have HY := zi (Hyes.out (by rw [Hdg.out, l48.out, l57.out, decide_eq_true (p := (s[k].toNat : Int) ≤ _) (by simp; omega), decide_eq_true (by simp; omega)]; rfl))
     go_wp2_with fail
     go_roundw
     case rel => exact ⟨k + 1, by omega, by go_num, HY.out, hbr⟩
     case measure => simp [intOf]; omega
  ·obtain rfl : k = s.size := by omega
   have hall := all_end Ha.out
   have hne : s.toList.isEmpty = decide (s.size = 0) := by rw [ByteArray.toList_eq, show s.size = s.data.toList.length by simp]; cases s.data.toList <;> simp
   have hne2 : (s.toList == []) = decide (s.size = 0) := by rw [← hne]; cases s.toList <;> rfl
   by_cases h0 : s.size = 0
   ·obtain ⟨rfl, rfl⟩ := Hnil.out h0
    rw [decide_eq_true h0] at hne hne2
    go_wp2_with fail
    go_ret2
    exact ⟨rfl, hbr⟩
   ·rw [decide_eq_false h0] at hne hne2
    by_cases h15 : 15 < s.size
    ·obtain ⟨rfl, rfl⟩ := Hbig.out hall h15
     go_wp2_with fail
     go_ret2
     exact ⟨rfl, hbr⟩
    ·obtain ⟨rfl, rfl⟩ := Hok.out hall (by omega) (by omega)
     have HB := zi (nm_bd s hall); have HS := zi (fun k h => nm_step (s := s) (k := k) h)
     have Hall := zi (List.all_eq_true.1 hall)
     clear hall Hdig Hnil Hbig Hok
     go_wp2_with fail
     go_loopw [4, 33] (fun n i wr => ∃ k, k ≤ s.size ∧ i = .int .i64 (k : Nat) ∧ n = .int .i64 (nmAt s k) ∧ Ext w wr) (fun _ i _ => s.size - (intOf i).toNat)
     case atStart => exact ⟨0, Nat.zero_le _, rfl, rfl, hbr⟩
     case round =>
      obtain ⟨k, hk, rfl, rfl, hbr⟩ := hrel
      by_cases hlt : k < s.size
      ·have hb := HB.out k hk; have h10 := p15 (show k ≤ 15 by omega)
       have hb2 := HB.out (k + 1) hlt; have h102 := p15 (show k + 1 ≤ 15 by omega)
       have hst := HS.out k hlt
       have hd : digC s[k] = true := Hall.out _ (by rw [show s[k] = s.data.toList[k]'(by simpa using hlt) by simp; rfl]; exact List.getElem_mem _)
       have hd1 : (48 : Int) ≤ s[k].toNat := by have := c8_le 48 s[k]; unfold digC at hd; rw [Bool.and_eq_true, this] at hd; simpa using hd.1
       have hd2 : (s[k].toNat : Int) ≤ 57 := by have := c8_le s[k] 57; unfold digC at hd; rw [Bool.and_eq_true, this] at hd; simpa using hd.2
       have HN := zi hst
       have hw1 : IntKind.i64.wrap (10 * nmAt s k) = 10 * nmAt s k := IntWalk.i64_in _ (by omega)
       have hw2 : IntKind.u8.wrap ((s[k].toNat : Int) - 48) = (s[k].toNat : Int) - 48 := IntWalk.u8_in _ (by omega)
       have hw3 : IntKind.i64.wrap ((s[k].toNat : Int) - 48) = (s[k].toNat : Int) - 48 := IntWalk.i64_in _ (by omega)
       have hw4 : IntKind.i64.wrap (10 * nmAt s k + ((s[k].toNat : Int) - 48)) = 10 * nmAt s k + ((s[k].toNat : Int) - 48) := IntWalk.i64_in _ (by omega)
       clear hst hd hb hb2 h10 h102
       generalize nmAt s k = N0 at *
       go_wp2_with fail
       go_roundw
       case rel => exact ⟨k + 1, by omega, by go_num, by rw [HN.out], hbr⟩
       case measure => simp [intOf]; omega
      ·obtain rfl : k = s.size := by omega
       go_wp2_with fail
       go_ret2
       exact ⟨rfl, hbr⟩
end Go.Proofs.YtmckbcbdnckngaaGreatDoor

namespace Go.Proofs.YtmckbcbdnckngaaGreatDoor
open Go.RowKit

end Go.Proofs.YtmckbcbdnckngaaGreatDoor

namespace Go.Proofs.YtmckbcbdnckngaaGreatDoor
open Go.RowKit

def Blk (w : World) (g : Nat) (t : TypeId) (cs : Array Value) : Prop := w.heap[g]? = some (.cells cs t (0, 0))
section
variable {w w' : World} {g : Nat} {t : TypeId} {cs : Array Value}
theorem Blk.lt (h : Blk w g t cs) : g < w.heap.size := by
 rcases Nat.lt_or_ge g w.heap.size with hlt | hge
 ·exact hlt
 ·unfold Blk at h; rw [Array.getElem?_eq_none hge] at h; cases h
theorem Blk.cell (h : Blk w g t cs) (i : Nat) : w.cell? ⟨g, i, none⟩ = cs[i]? := cell_of_row w g i cs t (0, 0) h
theorem Blk.frozen (h : Blk w g t cs) (i : Nat) : w.frozen? ⟨g, i, none⟩ = false := frozen_of_row w g i cs t h
theorem Blk.new (w : World) (t : TypeId) (cs : Array Value) : Blk (w.alloc (.cells cs t)) w.heap.size t cs := heap_alloc_new w _
theorem Blk.ext (h : Blk w g t cs) (hb : Ext w w') : Blk w' g t cs := (hb.below.block g h.lt).trans h
theorem Blk.alloc (h : Blk w g t cs) (o : Obj) : Blk (w.alloc o) g t cs := h.ext ((Ext.refl _).alloc o)
theorem Blk.drew (h : Blk w g t cs) : Blk w.drew g t cs := h
theorem Blk.set_ (h : Blk w g t cs) (i : Nat) (u : Value) : Blk (w.setCell ⟨g, i, none⟩ u) g t (cs.setIfInBounds i u) := heap_setCell_same w g i cs t u h
theorem Blk.far (h : Blk w g t cs) {p : Addr} (hp : g ≠ p.block) (u : Value) : Blk (w.setCell p u) g t cs := (heap_setCell_other w p g u hp).trans h
theorem Blk.grown {row : Option Nat} (h : Blk w g t cs) (hb : w.grownBy w' row) (hg : some g ≠ row) : Blk w' g t cs := (hb.block g h.lt hg).trans h
end
def ExtB (b : Nat) (w w' : World) : Prop := w.grownBy w' (some b)
theorem ExtB.of {b : Nat} {w w' : World} (h : Ext w w') : ExtB b w w' := ⟨h.below.os, h.below.tape, h.below.output, h.below.size, fun i hi _ => h.below.block i hi⟩
theorem ExtB.refl (b : Nat) (w : World) : ExtB b w w := ExtB.of (Ext.refl w)
theorem ExtB.trans {b : Nat} {a c d : World} (h : ExtB b a c) (k : ExtB b c d) : ExtB b a d := World.grownBy.trans h k
theorem ExtB.set_ {b : Nat} {w w' : World} (h : ExtB b w w') (i : Nat) (u : Value) : ExtB b w (w'.setCell ⟨b, i, none⟩ u) :=
 h.trans ⟨rfl, rfl, rfl, by simp [World.setCell], fun k hk hne => heap_setCell_other _ _ _ _ (fun e => hne (by rw [e]))⟩
theorem ExtB.size {b : Nat} {w w' : World} (h : ExtB b w w') : w.heap.size ≤ w'.heap.size := World.grownBy.size h
theorem Ext.growB {b : Nat} {w0 w w' : World} (h : Ext w0 w) (hg : ExtB b w w') (hb : w0.heap.size ≤ b) : Ext w0 w' :=
 h.grown hg (fun k hk => by cases hk; exact hb)
theorem Rd.growB {b : Nat} {w w' : World} {k n : Nat} {A : Option Addr} {xs : List Value} (h : Rd w k A n xs) (hg : ExtB b w w') (hne : ∀ a, A = some a → a.block ≠ b) : Rd w' k A n xs := by
 refine ⟨h.1, fun hn => ?_⟩
 obtain ⟨b', o, e, hc⟩ := h.2 hn
 refine ⟨b', o, e, fun j u hu => ?_⟩
 have h1 := hc j u hu
 exact World.grownBy.cell hg h1 (fun hh => hne _ e (by injection hh))

section
variable {P : Program}
theorem wpList_loadB {ops : Array Oper} {rest : List Oper} {o : Oper} {a : Act} {w : World} {Q : Exit → Act → World → Prop} (hgd : o.guard = none) (ty : TypeId) (x : Operand) (ho : o.op = .load ty x)
  (g : Nat) (hx : a.eval x = .pointer (some ⟨g, 0, none⟩)) (t : TypeId) (cs : Array Value) (hg : Blk w g t cs) (fs : Array Field)
  (hu : P.underlying ty = some (.struct fs)) (hi : (P.info? ty).map (·.size) = some cs.size)
  (h : wpList P ops Q rest (a.put o.dst (.agg cs)) w) : wpList P ops Q (o :: rest) a w :=
 wpList_load_row hgd ty x ho g hx t cs (0, 0) _ hg hu rfl hi h
theorem wpList_storeB {ops : Array Oper} {rest : List Oper} {o : Oper} {a : Act} {w : World} {Q : Exit → Act → World → Prop} (hgd : o.guard = none) (ty : TypeId) (x y : Operand) (ho : o.op = .store ty x y)
  (hd : o.dst = none) (g : Nat) (cells : Array Value) (hx : a.eval x = .pointer (some ⟨g, 0, none⟩)) (hy : a.eval y = .agg cells)
  (t : TypeId) (old : Array Value) (hg : Blk w g t old) (hi : (P.info? ty).map (·.size) = some cells.size)
  (hold : old.size = cells.size) (h1 : cells.all (·.oneCell') = true)
  (h : ∀ w', Blk w' g t cells → ExtB g w w' → wpList P ops Q rest a w') : wpList P ops Q (o :: rest) a w :=
 wpList_store_row hgd ty x y ho g cells hx hy t old hg hi hold h1 (by
  rw [hd]
  exact h _ (setRow_heap w g old cells t (0, 0) hg) ⟨rfl, rfl, rfl, by simp, fun k _ hne => setRow_other w g k cells (fun e => hne (by rw [e]))⟩)
end
end Go.Proofs.YtmckbcbdnckngaaGreatDoor

namespace Go.Proofs.YtmckbcbdnckngaaGreatDoor
open Go.RowKit

structure D where
 b0 : Bool
 b1 : Bool
 b2 : Bool
 b3 : Bool
 b4 : Bool
 b5 : Bool
 n0 : Int
 n1 : Int
 n2 : Int
 n3 : Int
 n4 : Int
 n5 : Int
def Gl (w : World) : Prop := ∃ m, w.cell? ⟨4, 0, none⟩ = some (.int .i64 m)
theorem Gl.ext {w w' : World} (h : Gl w) (hb : Ext w w') : Gl w' := by
 obtain ⟨m, hm⟩ := h; exact ⟨m, hb.cell hm⟩

end Go.Proofs.YtmckbcbdnckngaaGreatDoor

namespace Go.Proofs.YtmckbcbdnckngaaGreatDoor
open Go.RowKit

def bsL (s : ByteArray) : Bs := s.data.toList
def spS (c : UInt8) (s : ByteArray) : List ByteArray := Lib.splitB ⟨#[c]⟩ 0 (Lib.countB s ⟨#[c]⟩) s
theorem spS_data (c : UInt8) (s : ByteArray) : (spS c s).map (·.data.toList) = spL c (bsL s) := split_data c s
theorem spS_len (c : UInt8) (s : ByteArray) : (spS c s).length = Lib.countB s ⟨#[c]⟩ + 1 := Lib.splitB_all ⟨#[c]⟩ (Nat.le_refl 1) 0 _ s rfl
theorem spS_le (c : UInt8) (s : ByteArray) : (spS c s).length ≤ s.size + 1 := by
 rw [spS_len]
 have := Lib.countB_le ⟨#[c]⟩ (Nat.le_refl 1) s.size s (Nat.le_refl _)
 omega
theorem str_Split1 (c : UInt8) (s : ByteArray) (w : World) (hs : s.size ≤ 1048576) (hg : Gl w) :
  Calls Tryz.prog 68 #[.string s, .string ⟨#[c]⟩] w fun e w' => ∃ n, e = .returned (.slice (some ⟨w.heap.size, 0, none⟩) n n) ∧ RdS w' (some ⟨w.heap.size, 0, none⟩) n (spS c s) ∧ Ext w w' := by
 obtain ⟨m, hm⟩ := hg
 refine (Tryz.strings_Split s ⟨#[c]⟩ m w (by omega) hm (Nat.le_refl 1)).mono fun e w' hh => ?_
 obtain ⟨rfl, rfl⟩ := hh
 refine ⟨_, rfl, ?_, (Ext.refl w).alloc _⟩
 have := Rd.lit w ((spS c s).map Value.string).toArray 9 rfl 1 (Lib.countB s ⟨#[c]⟩ + 1) (by rw [← spS_len c s]; simp)
 rw [List.toList_toArray] at this
 exact this
def hV (o : Option Bs) : Value := match o with
 | some h => .tuple #[.string ⟨h.toArray⟩, .nilIface]
 | none => .tuple #[.string ⟨#[]⟩, errV 8]
theorem ret_v55 {a b : Value} (h : a = b) : Ending.returned a = .returned b := by rw [h]
theorem host_no {s : Bs} (h : (decide (s.length ≤ 100) && (spL 46 s).all labOk) = false) : hostL s = none := by unfold hostL; rw [h]; rfl
theorem host_long {s : Bs} (h : 100 < s.length) : hostL s = none := host_no (by rw [decide_eq_false (by omega)]; rfl)
theorem lab_at {c : UInt8} {s : ByteArray} {k : Nat} (hk : k < (spS c s).length) : bsL (spS c s)[k] ∈ spL c (bsL s) := by
 rw [← spS_data]
 exact List.mem_map.2 ⟨_, List.getElem_mem hk, rfl⟩
theorem host_bad {s : ByteArray} {k : Nat} (hk : k < (spS 46 s).length) (h : labOk (bsL (spS 46 s)[k]) = false) : hostL (bsL s) = none := by
 refine host_no ?_
 rw [Bool.and_eq_false_iff]
 refine .inr (Bool.eq_false_iff.2 fun e => ?_)
 have := List.all_eq_true.1 e _ (lab_at hk)
 rw [h] at this; cases this
theorem host_yes {s : ByteArray} (hl : s.size ≤ 100) (h : ∀ k (hk : k < (spS 46 s).length), labOk (bsL (spS 46 s)[k]) = true) : hostL (bsL s) = some (bsL (lowS s)) := by
 unfold hostL
 have h1 : (spL 46 (bsL s)).all labOk = true := by
  rw [← spS_data, List.all_eq_true]
  intro x hx
  obtain ⟨y, hy, rfl⟩ := List.mem_map.1 hx
  obtain ⟨k, hk, rfl⟩ := List.getElem_of_mem hy
  exact h k hk
 rw [h1, decide_eq_true (show (bsL s).length ≤ 100 by show s.data.toList.length ≤ 100; simpa using hl)]
 try rfl
theorem lab_short {x : ByteArray} (h : x.size < 1) : labOk (bsL x) = false := by
 unfold labOk; rw [show (bsL x).length = x.size by show x.data.toList.length = _; simp, decide_eq_false (by omega)]; rfl
theorem lab_long {x : ByteArray} (h : 63 < x.size) : labOk (bsL x) = false := by
 unfold labOk; rw [show (bsL x).length = x.size by show x.data.toList.length = _; simp, decide_eq_false (show ¬ x.size ≤ 63 by omega)]; simp
theorem bs_head {x : ByteArray} (h : 0 < x.size) : (bsL x).head? = some (x[0]'h) := by
 show x.data.toList.head? = _
 rw [List.head?_eq_getElem?, List.getElem?_eq_getElem (by simpa using h)]; rfl
theorem bs_last {x : ByteArray} (h : 0 < x.size) : (bsL x).getLast? = some (x[x.size - 1]'(by omega)) := by
 show x.data.toList.getLast? = _
 rw [List.getLast?_eq_getElem?, List.getElem?_eq_getElem (by simp; omega)]
 simp; rfl
theorem c45 {c : UInt8} (h : (c.toNat : Int) = 45) : c = 45 := UInt8.toNat_inj.1 (by show c.toNat = 45; omega)
theorem lab_first {x : ByteArray} (h : 0 < x.size) (h0 : ((x[0]'h).toNat : Int) = 45) : labOk (bsL x) = false := by
 unfold labOk; rw [bs_head h, c45 h0]; simp
theorem lab_lastc {x : ByteArray} (h : 0 < x.size) (h0 : ((x[x.size - 1]'(by omega)).toNat : Int) = 45) : labOk (bsL x) = false := by
 unfold labOk; rw [bs_last h, c45 h0]; simp
theorem lab_sign {x : ByteArray} {i : Nat} (h : i < x.size) (h0 : labC x[i] = false) : labOk (bsL x) = false := by
 have : (bsL x).all labC = false := by
  rw [Bool.eq_false_iff]
  intro e
  have := List.all_eq_true.1 e x[i] (List.getElem_mem (show i < x.data.toList.length by simpa using h))
  rw [h0] at this; cases this
 unfold labOk; rw [this]; simp
theorem lab_good {x : ByteArray} (h1 : 1 ≤ x.size) (h2 : x.size ≤ 63) (h3 : ¬ ((x[0]'(by omega)).toNat : Int) = 45) (h4 : ¬ ((x[x.size - 1]'(by omega)).toNat : Int) = 45) (h5 : ∀ i (hi : i < x.size), labC x[i] = true) : labOk (bsL x) = true := by
 have hl : (bsL x).length = x.size := by show x.data.toList.length = _; simp
 unfold labOk
 rw [hl, decide_eq_true h1, decide_eq_true h2, bs_head (by omega), bs_last (by omega)]
 have h6 : (bsL x).all labC = true := by
  rw [List.all_eq_true]
  intro c hc
  obtain ⟨i, hi, rfl⟩ := List.getElem_of_mem hc
  exact h5 i (by rw [← hl]; exact hi)
 rw [h6]
 have e1 : (some (x[0]'(by omega)) != some (45 : UInt8)) = true := by
  rw [bne_iff_ne]; intro e; injection e with e; exact h3 (by rw [e]; rfl)
 have e2 : (some (x[x.size - 1]'(by omega)) != some (45 : UInt8)) = true := by
  rw [bne_iff_ne]; intro e; injection e with e; exact h4 (by rw [e]; rfl)
 rw [e1, e2]; rfl
theorem adr_Host (s : ByteArray) (w : World) (hs : s.size ≤ 1048576) (hg : Gl w) :
    Calls Tryz.prog 35 #[.string s] w fun e w' => e = .returned (hV (hostL (bsL s))) ∧ Ext w w' := by
  have HSp := zi (str_Split1 46 s w hs hg)
  have Hlong := zi (fun (h : 100 < s.size) => host_long (s := bsL s) (by show 100 < s.data.toList.length; simpa using h))
  have Hbad := zi (fun (k : Nat) (hk : k < (spS 46 s).length) h => host_bad hk h)
  have Hyes := zi (@host_yes s)
  have Hln := zi (spS_le 46 s)
  generalize hostL (bsL s) = R at *
  by_cases hlen : 100 < s.size
  · have HR := zi (show hV none = hV R by rw [Hlong.out hlen])
    go_enter Tryz.func35, Tryz.ntmps35
    go_wp2_with fail
    go_ret2
    exact ⟨ret_v55 HR.out, Ext.refl _⟩
  have Hyes := zi (fun h => Hyes.out (by omega) h)
  go_enter Tryz.func35, Tryz.ntmps35
  go_wp2_with fail
  refine HSp.out.mono ?_; rintro e w1 ⟨n1, rfl, hr1, hb1⟩
  have Hl1 := zi hr1.lenS
  have hn1 : n1 ≤ 1048577 := by have := Hl1.out; have := Hln.out; omega
  generalize spS 46 s = V at *
  generalize w.heap.size = b1 at *
  go_wp2_with fail
  go_loopw [18] (fun i wr => ∃ k, k ≤ n1 ∧ i = .int .i64 (k : Nat) ∧ (∀ j (hj : j < V.length), j < k → labOk (bsL V[j]) = true) ∧ Ext w1 wr) (fun i _ => n1 - (intOf i).toNat)
  case atStart => exact ⟨0, Nat.zero_le _, rfl, fun j _ h => by omega, Ext.refl _⟩
  case round =>
    obtain ⟨k, hk, rfl, hall, hbr⟩ := hrel
    have Hall := zi hall; clear hall
    by_cases hlt : k < n1
    · have hlt' : k < V.length := by have := Hl1.out; omega
      obtain ⟨b, o, hbo, hc0⟩ := (hr1.ext hbr).atS hlt'
      injection hbo with hbo
      injection hbo with e1 e2
      subst e1; subst e2
      rw [Nat.zero_add] at hc0
      have Hbd := zi (fun h => Hbad.out k hlt' h)
      have Hnx := zi (show labOk (bsL V[k]) = true → ∀ j (hj : j < V.length), j < k + 1 → labOk (bsL V[j]) = true from fun h j hj hjk => by
        rcases Nat.lt_or_ge j k with h2 | h2
        · exact Hall.out j hj h2
        · obtain rfl : j = k := by omega
          exact h)
      generalize V[k] = x at *
      have HV8 := zi (show Value.tuple #[.string ⟨#[]⟩, .iface 63 (.int .i64 8)] = hV none from rfl)
      by_cases q1 : x.size < 1
      · have HR := zi (Hbd.out (lab_short q1))
        clear Hbd Hnx
        go_wp2_with fail
        go_ret2
        exact ⟨ret_v55 (by rw [HR.out]; exact HV8.out), hb1.trans hbr⟩
      by_cases q2 : 63 < x.size
      · have HR := zi (Hbd.out (lab_long q2))
        clear Hbd Hnx
        go_wp2_with fail
        go_ret2
        exact ⟨ret_v55 (by rw [HR.out]; exact HV8.out), hb1.trans hbr⟩
      have hx0 : 0 < x.size := by omega
      cases q3 : (((x[0]'hx0).toNat : Int) == 45)
      rotate_left
      · have HR := zi (Hbd.out (lab_first hx0 (by simpa using q3)))
        clear Hbd Hnx
        go_wp2_with fail
        go_ret2
        exact ⟨ret_v55 (by rw [HR.out]; exact HV8.out), hb1.trans hbr⟩
      cases q4 : (((x[x.size - 1]'(by omega)).toNat : Int) == 45)
      rotate_left
      · have HR := zi (Hbd.out (lab_lastc hx0 (by simpa using q4)))
        clear Hbd Hnx
        go_wp2_with fail
        go_ret2
        exact ⟨ret_v55 (by rw [HR.out]; exact HV8.out), hb1.trans hbr⟩
      have Hgood := zi (fun h => lab_good (x := x) (by omega) (by omega) (by simpa using q3) (by simpa using q4) h)
      have Hsg := zi (fun i (hi : i < x.size) (h0 : labC x[i] = false) => Hbd.out (lab_sign hi h0))
      have Hxs := zi (show x.size ≤ 63 by omega)
      go_wp2_with fail
      clear q1 q2 q3 q4 Hbd
      go_loop [44] (fun i => ∃ j, j ≤ x.size ∧ i = .int .i64 (j : Nat) ∧ (∀ q (hq : q < x.size), q < j → labC x[q] = true)) (fun i => x.size - (intOf i).toNat)
      case atStart => exact ⟨0, Nat.zero_le _, rfl, fun q _ h => by omega⟩
      case round =>
        obtain ⟨j, hj, rfl, hsg⟩ := hrel
        have Hs := zi hsg; clear hsg
        by_cases hjt : j < x.size
        · have HA := zi (fun w => adr_alnum x[j] w)
          have Hbad2 := zi (Hsg.out j hjt)
          have Hnext := zi (show labC x[j] = true → ∀ q (hq : q < x.size), q < j + 1 → labC x[q] = true from fun h q hq hqj => by
            rcases Nat.lt_or_ge q j with h2 | h2
            · exact Hs.out q hq h2
            · obtain rfl : q = j := by omega
              exact h)
          have e45 := c8_eq x[j] 45
          have Hl := zi (show labC x[j] = (alnumC x[j] || ((x[j].toNat : Int) == 45)) by unfold labC; rw [e45]; rfl)
          clear e45
          generalize labC x[j] = lb at *
          generalize alnumC x[j] = al at *
          cases al
          · cases q5 : ((x[j].toNat : Int) == 45)
            · have HR := zi (Hbad2.out (by rw [Hl.out, q5]; rfl))
              clear Hbad2 Hnext
              go_wp2_with fail
              refine (HA.out _).mono ?_; rintro e w3 ⟨rfl, rfl⟩
              go_wp2_with fail
              go_ret2
              exact ⟨ret_v55 (by rw [HR.out]; exact HV8.out), hb1.trans hbr⟩
            · have Hn2 := zi (Hnext.out (by rw [Hl.out, q5]; rfl))
              clear Hbad2 Hnext
              go_wp2_with fail
              refine (HA.out _).mono ?_; rintro e w3 ⟨rfl, rfl⟩
              go_wp2_with fail
              go_round
              case rel => exact ⟨j + 1, by omega, by go_num, Hn2.out⟩
              case measure => simp [intOf]; omega
          · have Hn2 := zi (Hnext.out (by rw [Hl.out]; rfl))
            clear Hbad2 Hnext
            go_wp2_with fail
            refine (HA.out _).mono ?_; rintro e w3 ⟨rfl, rfl⟩
            go_wp2_with fail
            go_round
            case rel => exact ⟨j + 1, by omega, by go_num, Hn2.out⟩
            case measure => simp [intOf]; omega
        · obtain rfl : j = x.size := by omega
          have Hall2 := zi (Hnx.out (Hgood.out fun q hq => Hs.out q hq hq))
          clear Hs hjt
          go_wp2_with fail
          go_roundw
          case rel => exact ⟨k + 1, by omega, by go_num, Hall2.out, hbr⟩
          case measure => simp [intOf]; omega
    · obtain rfl : k = n1 := by omega
      have HR := zi (Hyes.out fun j hj => Hall.out j hj (by have := Hl1.out; omega))
      clear hlt hk Hall
      have hw1 := hb1.trans hbr
      have hbs := fun w => run_bytes_of_string (P := Tryz.prog) w 9 23 5 s Tryz.underlying9 Tryz.underlying23 Tryz.underlying5
      go_wp2_with fail
      clear hbs
      generalize hcap : grownCap wr s.size 0 5 = cap
      have hcs : s.size ≤ cap := by rw [← hcap]; exact grownCap_ge _ _ _ _
      clear hcap
      generalize wr = W4 at *
      go_loopw [65] (fun i wi => ∃ j : Nat, j ≤ s.size ∧ i = .int .i64 j ∧ Ext W4 wi ∧ (∀ q, q < s.size → wi.cell? ⟨W4.heap.size, q, none⟩ = some (.int .u8 (lowAt s j q))) ∧ (∀ q, q < s.size → wi.frozen? ⟨W4.heap.size, q, none⟩ = false)) (fun i _ => s.size - (intOf i).toNat)
      case atStart =>
        refine ⟨0, Nat.zero_le _, rfl, ((Ext.refl _).alloc _).drew, fun j hj => ?_, fun j hj => ?_⟩
        · show (W4.alloc _).cell? _ = _
          rw [World.cell?_alloc_mark, bytesRow_at s cap j hj, lowAt_zero s j hj]
          try rfl
        · show (W4.alloc _).frozen? _ = _
          rw [World.frozen?_alloc_mark]
          have : j < (bytesRow s cap).size := by simp [bytesRow]; omega
          simp; omega
      case round =>
        obtain ⟨j, hj, rfl, hbi, hcell, hfr⟩ := hrel
        by_cases hjt : j < s.size
        · have hc := hcell j hjt
          have hf2 := hfr j hjt
          have Hcell := zi hcell; clear hcell
          have Hfr := zi hfr; clear hfr
          rw [lowAt_self] at hc
          by_cases hup : (65 : Int) ≤ (s.data[j].toNat : Int) ∧ (s.data[j].toNat : Int) ≤ 90
          · have hy := lowC_yes s.data[j] hup.1 hup.2
            have ha := low_step_yes (lt := hjt) Hcell.out Hfr.out hy
            obtain ⟨u1, u2⟩ := hup
            clear hy
            go_wp2
            go_roundw
            case rel => exact ⟨j + 1, by omega, by go_num, Ext.setCell hbi (p := ⟨W4.heap.size, j, none⟩) (Nat.le_refl _) _, ha.1, ha.2⟩
            case measure => simp [intOf]; omega
          · have hn := lowC_no s.data[j] hup
            have ha := low_step_no hjt Hcell.out hn
            clear hn
            go_wp2
            all_goals
              first
              | (exfalso; omega)
              | (go_roundw
                 case rel => exact ⟨j + 1, by omega, by go_num, hbi, ha, Hfr.out⟩
                 case measure => simp [intOf]; omega)
        · obtain rfl : j = s.size := by omega
          have hback := run_convert_bytes_back (P := Tryz.prog) wr 23 9 5 ⟨W4.heap.size, 0, none⟩ cap (lowL s.data.toList) Tryz.underlying23 Tryz.underlying5 Tryz.underlying9
            (fun q hq => by rw [add_plain, Nat.zero_add, hcell q (by simpa [lowL] using hq), lowAt_end s s.size q (by simpa [lowL] using hq) hq])
          rw [show (lowL s.data.toList).length = s.size by simp [lowL]] at hback
          clear hcell hfr
          go_wp2
          go_ret2
          exact ⟨ret_v55 (by rw [HR.out]; rfl), hw1.trans hbi⟩
end Go.Proofs.YtmckbcbdnckngaaGreatDoor

namespace Go.Proofs.YtmckbcbdnckngaaGreatDoor

def canAt (oth : UInt8 → Bool) (l : Bs) (i : Nat) (o : Bs) : Prop := canL oth l = (canL oth (l.drop i)).map (o ++ ·)
theorem canAt_zero (oth : UInt8 → Bool) (l : Bs) : canAt oth l 0 [] := by
 unfold canAt
 rw [List.drop_zero]
 cases canL oth l <;> simp
theorem canAt_end {oth : UInt8 → Bool} {l : Bs} {o : Bs} (h : canAt oth l l.length o) : canL oth l = some o := by
 unfold canAt at h
 rw [List.drop_length] at h
 rw [h]; simp [canL]
theorem drop_at {l : Bs} {i : Nat} (h : i < l.length) : l.drop i = l[i] :: l.drop (i + 1) := List.drop_eq_getElem_cons h
theorem can_c {oth : UInt8 → Bool} {c : UInt8} {r : Bs} (hc : c ≠ 37) : canL oth (c :: r) = if unresC c || oth c then (canL oth r).map (c :: ·) else none := by
 conv => lhs; unfold canL
 rw [if_pos hc]
theorem map_map_app {x : Option Bs} {o : Bs} {f : Bs → Bs} {q : Bs} (hf : ∀ r, o ++ f r = q ++ r) : (x.map f).map (o ++ ·) = x.map (q ++ ·) := by
 cases x with
 | none => rfl
 | some r => show some (o ++ f r) = some (q ++ r); rw [hf]
theorem can_plain {oth : UInt8 → Bool} {l : Bs} {i : Nat} {o : Bs} (h : canAt oth l i o) (hi : i < l.length) (hc : l[i] ≠ 37) (hu : (unresC l[i] || oth l[i]) = true) : canAt oth l (i + 1) (o ++ [l[i]]) := by
 unfold canAt at *
 rw [h, drop_at hi, can_c hc, hu, if_pos rfl]
 exact map_map_app fun r => by simp
theorem can_bad {oth : UInt8 → Bool} {l : Bs} {i : Nat} {o : Bs} (h : canAt oth l i o) (hi : i < l.length) (hc : l[i] ≠ 37) (hu : (unresC l[i] || oth l[i]) = false) : canL oth l = none := by
 unfold canAt at h
 rw [h, drop_at hi, can_c hc, hu]; rfl
theorem can_short {oth : UInt8 → Bool} {l : Bs} {i : Nat} {o : Bs} (h : canAt oth l i o) (hi : i < l.length) (hc : l[i] = 37) (h2 : l.length ≤ i + 2) : canL oth l = none := by
 unfold canAt at h
 rw [h, drop_at hi, hc]
 have hl : (l.drop (i + 1)).length ≤ 1 := by rw [List.length_drop]; omega
 match l.drop (i + 1), hl with
 | [], _ => rfl
 | [_], _ => rfl
theorem drop_three {l : Bs} {i : Nat} (h : i + 2 < l.length) : l.drop i = l[i] :: l[i + 1] :: l[i + 2] :: l.drop (i + 3) := by
 rw [drop_at (by omega), drop_at (show i + 1 < l.length by omega), drop_at (show i + 1 + 1 < l.length by omega)]
theorem can_pct {oth : UInt8 → Bool} {a b : UInt8} {r : Bs} : canL oth (37 :: a :: b :: r) =
  if hexV a < 0 || hexV b < 0 then none else if byteV a b < 32 || byteV a b == 127 then none
  else if unresC (byteV a b) then (canL oth r).map (byteV a b :: ·) else (canL oth r).map (fun o => 37 :: hexC (byteV a b >>> 4) :: hexC (byteV a b &&& 15) :: o) := by
 conv => lhs; unfold canL
 rw [if_neg (by simp)]
theorem can_hexbad {oth : UInt8 → Bool} {l : Bs} {i : Nat} {o : Bs} (h : canAt oth l i o) (hi : i + 2 < l.length) (hc : l[i] = 37) (hx : hexV l[i + 1] < 0 ∨ hexV l[i + 2] < 0) : canL oth l = none := by
 unfold canAt at h
 rw [h, drop_three hi, hc, can_pct, if_pos (by simpa using hx)]; rfl
theorem can_ctl {oth : UInt8 → Bool} {l : Bs} {i : Nat} {o : Bs} (h : canAt oth l i o) (hi : i + 2 < l.length) (hc : l[i] = 37) (hx : (byteV l[i + 1] l[i + 2] < 32 || byteV l[i + 1] l[i + 2] == 127) = true) : canL oth l = none := by
 unfold canAt at h
 rw [h, drop_three hi, hc, can_pct, if_pos hx]
 split <;> rfl
theorem can_un {oth : UInt8 → Bool} {l : Bs} {i : Nat} {o : Bs} (h : canAt oth l i o) (hi : i + 2 < l.length) (hc : l[i] = 37) (h1 : 0 ≤ hexV l[i + 1]) (h2 : 0 ≤ hexV l[i + 2]) (hx : (byteV l[i + 1] l[i + 2] < 32 || byteV l[i + 1] l[i + 2] == 127) = false) (hu : unresC (byteV l[i + 1] l[i + 2]) = true) :
  canAt oth l (i + 3) (o ++ [byteV l[i + 1] l[i + 2]]) := by
 unfold canAt at *
 rw [h, drop_three hi, hc, can_pct, if_neg (by simp; omega), hx, if_neg (by simp), hu, if_pos rfl]
 exact map_map_app fun r => by simp
theorem can_hex {oth : UInt8 → Bool} {l : Bs} {i : Nat} {o : Bs} (h : canAt oth l i o) (hi : i + 2 < l.length) (hc : l[i] = 37) (h1 : 0 ≤ hexV l[i + 1]) (h2 : 0 ≤ hexV l[i + 2]) (hx : (byteV l[i + 1] l[i + 2] < 32 || byteV l[i + 1] l[i + 2] == 127) = false) (hu : unresC (byteV l[i + 1] l[i + 2]) = false) :
  canAt oth l (i + 3) (o ++ [37, hexC (byteV l[i + 1] l[i + 2] >>> 4), hexC (byteV l[i + 1] l[i + 2] &&& 15)]) := by
 unfold canAt at *
 rw [h, drop_three hi, hc, can_pct, if_neg (by simp; omega), hx, if_neg (by simp), hu, if_neg (by simp)]
 exact map_map_app fun r => by simp
theorem byteV_nat {a b : UInt8} (ha : 0 ≤ hexV a) (hb : 0 ≤ hexV b) : ((byteV a b).toNat : Int) = 16 * hexV a + hexV b := by
 have h : ∀ n : Fin 256, hexV (UInt8.ofFin n) ≤ 15 := by decide +kernel
 have h1 := h a.toFin; have h2 := h b.toFin
 simp only [UInt8.ofFin_toFin] at h1 h2
 unfold byteV
 rw [UInt8.toNat_ofNat']
 omega
end Go.Proofs.YtmckbcbdnckngaaGreatDoor

namespace Go.Proofs.YtmckbcbdnckngaaGreatDoor
open Go.RowKit

def cnV (o : Option Bs) : Value := match o with
 | some l => .tuple #[.string ⟨l.toArray⟩, .bool true]
 | none => .tuple #[.string ⟨#[]⟩, .bool false]
def inB (t : ByteArray) (c : UInt8) : Bool := decide (c ∈ bsL t)
theorem ixb_iff (t : ByteArray) (c : UInt8) : decide (Lib.indexByte t.data.toList c < 0) = !inB t c := by
 unfold inB bsL
 by_cases h : c ∈ t.data.toList
 ·obtain ⟨x, y, e, hx⟩ := List.eq_append_cons_of_mem h
  rw [decide_eq_true h, e, ixb_some y hx, decide_eq_false (by omega)]; rfl
 ·rw [decide_eq_false h, ixb_none h]; rfl
theorem u8_back (x : UInt8) : ((x.toNat : Int)).toNat.toUInt8 = x := by simp
theorem hexV_le (c : UInt8) : hexV c ≤ 15 ∧ -1 ≤ hexV c := by
 have h : ∀ n : Fin 256, hexV (UInt8.ofFin n) ≤ 15 ∧ -1 ≤ hexV (UInt8.ofFin n) := by decide +kernel
 have := h c.toFin
 simpa using this
theorem c8_lt32 (c : UInt8) : decide (c < 32) = decide ((c.toNat : Int) < 32) := by
 congr 1; rw [UInt8.lt_iff_toNat_lt]; exact propext ⟨fun h => by have : c.toNat < 32 := h; omega, fun h => by show c.toNat < 32; omega⟩
theorem c37_ne {c : UInt8} (h : ((c.toNat : Int) == 37) = false) : c ≠ 37 := fun e => by rw [e] at h; revert h; decide
theorem c37_nat {c : UInt8} (h : (c.toNat : Int) = 37) : c.toNat = (37 : UInt8).toNat := by show c.toNat = 37; omega
theorem c37_eq {c : UInt8} (h : ((c.toNat : Int) == 37) = true) : c = 37 := UInt8.toNat_inj.1 (c37_nat (by simpa using h))
theorem hexhi (v : UInt8) : ∃ hb : (((v.toNat : Int) / 16).toNat) < (⟨#[48, 49, 50, 51, 52, 53, 54, 55, 56, 57, 65, 66, 67, 68, 69, 70]⟩ : ByteArray).size, (((⟨#[48, 49, 50, 51, 52, 53, 54, 55, 56, 57, 65, 66, 67, 68, 69, 70]⟩ : ByteArray)[((v.toNat : Int) / 16).toNat]'hb).toNat : Int) = ((hexC (v >>> 4)).toNat : Int) := by
 have h : ∀ n : Fin 256, ∃ hb : ((((UInt8.ofFin n).toNat : Int) / 16).toNat) < (⟨#[48, 49, 50, 51, 52, 53, 54, 55, 56, 57, 65, 66, 67, 68, 69, 70]⟩ : ByteArray).size, (((⟨#[48, 49, 50, 51, 52, 53, 54, 55, 56, 57, 65, 66, 67, 68, 69, 70]⟩ : ByteArray)[(((UInt8.ofFin n).toNat : Int) / 16).toNat]'hb).toNat : Int) = ((hexC ((UInt8.ofFin n) >>> 4)).toNat : Int) := by decide +kernel
 have := h v.toFin
 simpa only [UInt8.ofFin_toFin] using this
theorem hexhi_b (v : UInt8) : 0 ≤ (v.toNat : Int) / 16 ∧ (v.toNat : Int) / 16 < 16 := by have := v.toNat_lt; omega
theorem bits_lo (v : UInt8) : bits BinOp.and IntKind.u8 (v.toNat : Int) 15 = ((v.toNat % 16 : Nat) : Int) := by
 have h : ∀ n : Fin 256, bits BinOp.and IntKind.u8 ((UInt8.ofFin n).toNat : Int) 15 = (((UInt8.ofFin n).toNat % 16 : Nat) : Int) := by decide +kernel
 have := h v.toFin
 simpa only [UInt8.ofFin_toFin] using this
theorem hexlo (v : UInt8) : ∃ hb : ((bits BinOp.and IntKind.u8 (v.toNat : Int) 15).toNat) < (⟨#[48, 49, 50, 51, 52, 53, 54, 55, 56, 57, 65, 66, 67, 68, 69, 70]⟩ : ByteArray).size, (((⟨#[48, 49, 50, 51, 52, 53, 54, 55, 56, 57, 65, 66, 67, 68, 69, 70]⟩ : ByteArray)[(bits BinOp.and IntKind.u8 (v.toNat : Int) 15).toNat]'hb).toNat : Int) = ((hexC (v &&& 15)).toNat : Int) := by
 have h : ∀ n : Fin 256, ∃ hb : ((bits BinOp.and IntKind.u8 ((UInt8.ofFin n).toNat : Int) 15).toNat) < (⟨#[48, 49, 50, 51, 52, 53, 54, 55, 56, 57, 65, 66, 67, 68, 69, 70]⟩ : ByteArray).size, (((⟨#[48, 49, 50, 51, 52, 53, 54, 55, 56, 57, 65, 66, 67, 68, 69, 70]⟩ : ByteArray)[(bits BinOp.and IntKind.u8 ((UInt8.ofFin n).toNat : Int) 15).toNat]'hb).toNat : Int) = ((hexC ((UInt8.ofFin n) &&& 15)).toNat : Int) := by decide +kernel
 have := h v.toFin
 simpa only [UInt8.ofFin_toFin] using this
theorem hexlo_b (v : UInt8) : 0 ≤ bits BinOp.and IntKind.u8 (v.toNat : Int) 15 ∧ bits BinOp.and IntKind.u8 (v.toNat : Int) 15 < 16 := by rw [bits_lo]; omega
theorem rd3 {w0 w : World} (_ : Ext w0 w) (a b c : Value) (e : TypeId) : Rd (w.alloc (.cells #[a, b, c] e)) 1 (some ⟨w.heap.size, 0, none⟩) 3 [a, b, c] := Rd.lit w #[a, b, c] e rfl 1 3 rfl
theorem adr_canonical (s t : ByteArray) (w : World) (hs : s.size ≤ 1048576) :
  Calls Tryz.prog 105 #[.string s, .string t] w fun e w' => e = .returned (cnV (canL (inB t) (bsL s))) ∧ Ext w w' := by
 have Hl := zi (show (bsL s).length = s.size by show s.data.toList.length = _; simp)
 have Hpl := zi (fun (i : Nat) (o : Bs) (h : canAt (inB t) (bsL s) i o) (hi : i < s.size) (hc : s[i] ≠ 37) (hu : (unresC s[i] || inB t s[i]) = true) => show canAt (inB t) (bsL s) (i + 1) (o ++ [s[i]]) from can_plain h (by rw [Hl.out]; exact hi) hc hu)
 have Hbd := zi (fun (i : Nat) (o : Bs) (h : canAt (inB t) (bsL s) i o) (hi : i < s.size) (hc : s[i] ≠ 37) (hu : (unresC s[i] || inB t s[i]) = false) => can_bad h (by rw [Hl.out]; exact hi) hc hu)
 have Hsh := zi (fun (i : Nat) (o : Bs) (h : canAt (inB t) (bsL s) i o) (hi : i < s.size) (hc : s[i] = 37) (h2 : s.size ≤ i + 2) => can_short h (by rw [Hl.out]; exact hi) hc (by rw [Hl.out]; exact h2))
 have Hhx := zi (fun (i : Nat) (o : Bs) (h : canAt (inB t) (bsL s) i o) (hi : i + 2 < s.size) (hc : s[i]'(by omega) = 37) (hx : hexV (s[i + 1]'(by omega)) < 0 ∨ hexV (s[i + 2]'(by omega)) < 0) => can_hexbad h (by rw [Hl.out]; exact hi) hc hx)
 have Hct := zi (fun (i : Nat) (o : Bs) (h : canAt (inB t) (bsL s) i o) (hi : i + 2 < s.size) (hc : s[i]'(by omega) = 37) (hx : (byteV (s[i + 1]'(by omega)) (s[i + 2]'(by omega)) < 32 || byteV (s[i + 1]'(by omega)) (s[i + 2]'(by omega)) == 127) = true) => can_ctl h (by rw [Hl.out]; exact hi) hc hx)
 have Hun := zi (fun (i : Nat) (o : Bs) (h : canAt (inB t) (bsL s) i o) (hi : i + 2 < s.size) (hc : s[i]'(by omega) = 37) (h1 : 0 ≤ hexV (s[i + 1]'(by omega))) (h2 : 0 ≤ hexV (s[i + 2]'(by omega))) (hx : (byteV (s[i + 1]'(by omega)) (s[i + 2]'(by omega)) < 32 || byteV (s[i + 1]'(by omega)) (s[i + 2]'(by omega)) == 127) = false) (hu : unresC (byteV (s[i + 1]'(by omega)) (s[i + 2]'(by omega))) = true) => show canAt (inB t) (bsL s) (i + 3) (o ++ [byteV (s[i + 1]'(by omega)) (s[i + 2]'(by omega))]) from can_un h (by rw [Hl.out]; exact hi) hc h1 h2 hx hu)
 have Hhe := zi (fun (i : Nat) (o : Bs) (h : canAt (inB t) (bsL s) i o) (hi : i + 2 < s.size) (hc : s[i]'(by omega) = 37) (h1 : 0 ≤ hexV (s[i + 1]'(by omega))) (h2 : 0 ≤ hexV (s[i + 2]'(by omega))) (hx : (byteV (s[i + 1]'(by omega)) (s[i + 2]'(by omega)) < 32 || byteV (s[i + 1]'(by omega)) (s[i + 2]'(by omega)) == 127) = false) (hu : unresC (byteV (s[i + 1]'(by omega)) (s[i + 2]'(by omega))) = false) => show canAt (inB t) (bsL s) (i + 3) (o ++ [37, hexC (byteV (s[i + 1]'(by omega)) (s[i + 2]'(by omega)) >>> 4), hexC (byteV (s[i + 1]'(by omega)) (s[i + 2]'(by omega)) &&& 15)]) from can_hex h (by rw [Hl.out]; exact hi) hc h1 h2 hx hu)
 have Hen := zi (fun (o : Bs) (h : canAt (inB t) (bsL s) s.size o) => canAt_end (by rw [Hl.out]; exact h))
 have Hz := zi (canAt_zero (inB t) (bsL s))
 generalize canL (inB t) (bsL s) = Q at *
 have HN := zi (show Value.tuple #[.string ⟨#[]⟩, .bool false] = cnV none from rfl)
 go_enter Tryz.func105, Tryz.ntmps105
 go_wp2_with fail
 go_loopw [6, 7] (fun v i wr => ∃ k o A' c' m, k ≤ s.size ∧ i = .int .i64 (k : Nat) ∧ v = .slice A' m c' ∧ wr.ownsRow w.heap.size 5 1 (.slice A' m c') m (bcs o) ∧ m ≤ c' ∧ m ≤ k ∧ canAt (inB t) (bsL s) k o ∧ Ext w wr) (fun _ i _ => s.size - (intOf i).toNat)
 case atStart => exact ⟨0, [], none, 0, 0, Nat.zero_le _, rfl, rfl, World.ownsRow_nil _ _ _ _, Nat.le_refl _, Nat.le_refl _, Hz.out, Ext.refl _⟩
 case round =>
  obtain ⟨k, o, A', c', m, hk, rfl, rfl, hown, hmc, hmk, hat, hbr⟩ := hrel
  have Hat := zi hat; clear hat
  by_cases hlt : k < s.size
  ·cases h37 : ((s[k].toNat : Int) == 37)
   ·have hne := c37_ne h37
    have Hp := zi (Hpl.out k o Hat.out hlt hne)
    have Hb := zi (Hbd.out k o Hat.out hlt hne)
    have HU := zi (fun w => adr_unreserved s[k] w)
    have HI := zi (fun w => Tryz.strings_IndexByte t (s[k].toNat : Int) w)
    rw [u8_back] at HI
    have HJ := zi (ixb_iff t s[k])
    clear hne
    generalize unresC s[k] = un at *
    generalize inB t s[k] = ib at *
    generalize Lib.indexByte t.data.toList s[k] = ix at *
    cases un
    ·cases ib
     ·have HR := zi (Hb.out rfl)
      have hix : ix < 0 := of_decide_eq_true HJ.out
      clear Hp Hb
      go_wp2_with fail
      refine (HU.out _).mono ?_; rintro e w1 ⟨rfl, rfl⟩
      go_wp2_with fail
      refine (HI.out _).mono ?_; rintro e w2 ⟨rfl, rfl⟩
      go_wp2_with fail
      go_ret2
      exact ⟨ret_v55 (by rw [HR.out]; exact HN.out), hbr⟩
     ·have HP := zi (Hp.out rfl)
      have hix : ¬ ix < 0 := of_decide_eq_false HJ.out
      clear Hp Hb
      go_wp2_with fail
      refine (HU.out _).mono ?_; rintro e w1 ⟨rfl, rfl⟩
      go_wp2_with fail
      refine (HI.out _).mono ?_; rintro e w2 ⟨rfl, rfl⟩
      go_wp2_with (first
       | (at_builtin; refine wpList_app _ rfl (.tmp 29) (.tmp 31) 23 rfl w 5 _ 1 1 Tryz.underlying23 infoU8 rfl (by decide) _ _ _ rfl (hown.alloc _) _ 1 1 [.int .u8 (s[k].toNat : Int)] rfl (Rd.one _ _ _ (by simp)) (by intro u hu; simp at hu; subst hu; rfl) (hbr.alloc _) (by omega) (by decide) ?_; intro A2 c2 w3 hown3 hb3 hle3))
      go_roundw
      case rel => exact ⟨k + 1, o ++ [s[k]], A2, c2, m + 1, by omega, by go_num, rfl, by rw [bcs_app]; exact hown3, hle3, by omega, HP.out, hb3⟩
      case measure => simp [intOf]; omega
    ·have HP := zi (Hp.out rfl)
     clear Hp Hb
     go_wp2_with fail
     refine (HU.out _).mono ?_; rintro e w1 ⟨rfl, rfl⟩
     go_wp2_with (first
      | (at_builtin; refine wpList_app _ rfl (.tmp 29) (.tmp 31) 23 rfl w 5 _ 1 1 Tryz.underlying23 infoU8 rfl (by decide) _ _ _ rfl (hown.alloc _) _ 1 1 [.int .u8 (s[k].toNat : Int)] rfl (Rd.one _ _ _ (by simp)) (by intro u hu; simp at hu; subst hu; rfl) (hbr.alloc _) (by omega) (by decide) ?_; intro A2 c2 w3 hown3 hb3 hle3))
     go_roundw
     case rel => exact ⟨k + 1, o ++ [s[k]], A2, c2, m + 1, by omega, by go_num, rfl, by rw [bcs_app]; exact hown3, hle3, by omega, HP.out, hb3⟩
     case measure => simp [intOf]; omega
   ·have heq := c37_eq h37
    by_cases hk2 : k + 2 < s.size
    rotate_left
    ·have HR := zi (Hsh.out k o Hat.out hlt heq (by omega))
     clear heq
     go_wp2_with fail
     go_ret2
     exact ⟨ret_v55 (by rw [HR.out]; exact HN.out), hbr⟩
    have HD1 := zi (fun w => adr_digit (s[k + 1]'(by omega)) w)
    have HD2 := zi (fun w => adr_digit (s[k + 2]'(by omega)) w)
    have Hx := zi (Hhx.out k o Hat.out hk2 heq)
    have Hc := zi (Hct.out k o Hat.out hk2 heq)
    have Hu := zi (Hun.out k o Hat.out hk2 heq)
    have He := zi (Hhe.out k o Hat.out hk2 heq)
    have Hb1 := zi (hexV_le (s[k + 1]'(by omega))); have Hb2 := zi (hexV_le (s[k + 2]'(by omega)))
    have Hbv := zi (@byteV_nat (s[k + 1]'(by omega)) (s[k + 2]'(by omega)))
    clear heq
    generalize hexV (s[k + 1]'(by omega)) = ha at *
    generalize hexV (s[k + 2]'(by omega)) = hb at *
    generalize byteV (s[k + 1]'(by omega)) (s[k + 2]'(by omega)) = v at *
    by_cases ha0 : ha < 0
    ·have HR := zi (Hx.out (.inl ha0))
     go_wp2_with fail
     refine (HD1.out _).mono ?_; rintro e w1 ⟨rfl, rfl⟩
     go_wp2_with fail
     go_ret2
     exact ⟨ret_v55 (by rw [HR.out]; exact HN.out), hbr⟩
    by_cases hb0 : hb < 0
    ·have HR := zi (Hx.out (.inr hb0))
     go_wp2_with fail
     refine (HD1.out _).mono ?_; rintro e w1 ⟨rfl, rfl⟩
     go_wp2_with fail
     refine (HD2.out _).mono ?_; rintro e w2 ⟨rfl, rfl⟩
     go_wp2_with fail
     go_ret2
     exact ⟨ret_v55 (by rw [HR.out]; exact HN.out), hbr⟩
    have hsum := Hbv.out (by omega) (by omega)
    have hb1' := Hb1.out; have hb2' := Hb2.out
    have hwr : IntKind.u8.wrap (16 * ha + hb) = (v.toNat : Int) := by rw [IntWalk.u8_in _ (by omega)]; exact hsum.symm
    have hwi : IntKind.i64.wrap (16 * ha) = 16 * ha := IntWalk.i64_in _ (by omega)
    have hwi2 : IntKind.i64.wrap (16 * ha + hb) = 16 * ha + hb := IntWalk.i64_in _ (by omega)
    have Hu2 := zi (fun h1 h2 => Hu.out (by omega) (by omega) h1 h2)
    have He2 := zi (fun h1 h2 => He.out (by omega) (by omega) h1 h2)
    clear Hu He Hx hsum Hbv
    have c1 : k + 1 < s.size := by omega
    have hwk1 : IntKind.i64.wrap ((k : Int) + 1) = ((k + 1 : Nat) : Int) := by rw [IntWalk.i64_in _ (by omega)]; omega
    have hwk2 : IntKind.i64.wrap ((k : Int) + 2) = ((k + 2 : Nat) : Int) := by rw [IntWalk.i64_in _ (by omega)]; omega
    go_wp2_with fail
    refine (HD1.out _).mono ?_; rintro e w1 ⟨rfl, rfl⟩
    go_wp2_with fail
    refine (HD2.out _).mono ?_; rintro e w2 ⟨rfl, rfl⟩
    go_wp2_with fail
    refine wp_region_held_drew (S := (fun _ => True)) (by kernel_rfl) ?_ (fun hHeld => ?_)
    ·(try dsimp only); (try trivial)
    refine zH (v := ?_) 0 (some 54) rfl ?_ ?_; rotate_left
    ·(intro w hSw; (try dsimp only at hSw); go_simp; (try with_reducible rfl))
    try simp only [zP]
    refine zH (v := ?_) 1 (some 55) rfl ?_ ?_; rotate_left
    ·(intro w hSw; (try dsimp only at hSw); go_simp; (try with_reducible rfl))
    try simp only [zP]
    refine zH (v := ?_) 2 (some 56) rfl ?_ ?_; rotate_left
    ·(intro w hSw; (try dsimp only at hSw); go_simp; (try with_reducible rfl))
    try simp only [zP]
    refine zH (v := ?_) 3 (some 57) rfl ?_ ?_; rotate_left
    ·(intro w hSw; (try dsimp only at hSw); go_simp; (try with_reducible rfl))
    try simp only [zP]
    refine zH (v := ?_) 6 (some 60) rfl ?_ ?_; rotate_left
    ·(intro w hSw; (try dsimp only at hSw); go_simp; (try with_reducible rfl))
    try simp only [zP]
    refine zH (v := ?_) 7 (some 61) rfl ?_ ?_; rotate_left
    ·(intro w hSw; (try dsimp only at hSw); go_simp; (try with_reducible rfl))
    try simp only [zP]
    refine zH (v := ?_) 8 (some 62) rfl ?_ ?_; rotate_left
    ·(intro w hSw; (try dsimp only at hSw); go_simp; (try with_reducible rfl))
    try simp only [zP]
    refine zH (v := ?_) 9 (some 63) rfl ?_ ?_; rotate_left
    ·(intro w hSw; (try dsimp only at hSw); go_simp; (try with_reducible rfl))
    try simp only [zP]
    refine wpAnyH_ready (rs := [4]) (by kernel_rfl) (by simp) ?_
    refine AllReadyH.cons (o := ⟨some 58, _, _, _, _, _⟩) rfl (fun K hK => ?_) AllReadyH.nil
    go_simp
    refine (HD1.out _).mono ?_; rintro e w3 ⟨rfl, rfl⟩
    try go_wp2_with fail
    refine hK.out _ _ ?_ (fun hHeld => ?_)
    ·(try dsimp only); (try trivial)
    clear hK K
    try simp only [zP]
    refine zH (v := ?_) 5 (some 59) rfl ?_ ?_; rotate_left
    ·(intro w hSw; (try dsimp only at hSw); go_simp; (try with_reducible rfl))
    try simp only [zP]
    refine wpAnyH_ready (rs := [10]) (by kernel_rfl) (by simp) ?_
    refine AllReadyH.cons (o := ⟨some 64, _, _, _, _, _⟩) rfl (fun K hK => ?_) AllReadyH.nil
    go_simp
    refine (HD2.out _).mono ?_; rintro e w4 ⟨rfl, rfl⟩
    try go_wp2_with fail
    refine hK.out _ _ ?_ (fun hHeld => ?_)
    ·(try dsimp only); (try trivial)
    clear hK K
    try simp only [zP]
    refine zH (v := ?_) 11 (some 65) rfl ?_ ?_; rotate_left
    ·(intro w hSw; (try dsimp only at hSw); go_simp; (try with_reducible rfl))
    try simp only [zP]
    refine zH (v := ?_) 12 (some 66) rfl ?_ ?_; rotate_left
    ·(intro w hSw; (try dsimp only at hSw); go_simp; (try with_reducible rfl))
    try simp only [zP]
    refine zH (v := ?_) 13 (some 8) rfl ?_ ?_; rotate_left
    ·(intro w hSw; (try dsimp only at hSw); go_simp; (try with_reducible rfl))
    try simp only [zP]
    refine wpAnyH_done (by kernel_rfl) ?_ _
    have hbr := hbr.drew
    clear HD1 HD2 hwr hwi hwi2
    by_cases hv32 : (v.toNat : Int) < 32
    ·have HR := zi (Hc.out (by rw [c8_lt32, decide_eq_true hv32]; rfl))
     clear Hc Hu2 He2
     go_wp2_with fail
     go_ret2
     exact ⟨ret_v55 (by rw [HR.out]; exact HN.out), hbr⟩
    cases hv127 : ((v.toNat : Int) == 127)
    rotate_left
    ·have HR := zi (Hc.out (by rw [show (v == (127 : UInt8)) = true from (c8_eq v 127).trans hv127]; simp))
     clear Hc Hu2 He2
     go_wp2_with fail
     go_ret2
     exact ⟨ret_v55 (by rw [HR.out]; exact HN.out), hbr⟩
    have hctl : (v < 32 || v == 127) = false := by rw [c8_lt32, decide_eq_false hv32, show (v == (127 : UInt8)) = false from (c8_eq v 127).trans hv127]; rfl
    have HU := zi (fun w => adr_unreserved v w)
    cases hun : unresC v
    rotate_left
    ·have HP := zi (Hu2.out hctl hun)
     rw [hun] at HU
     clear Hc Hu2 He2 hctl hun
     go_wp2_with fail
     refine (HU.out _).mono ?_; rintro e w5 ⟨rfl, rfl⟩
     go_wp2_with (first
      | (at_builtin; refine wpList_app _ rfl (.tmp 77) (.tmp 79) 23 rfl w 5 _ 1 1 Tryz.underlying23 infoU8 rfl (by decide) _ _ _ rfl ((show World.ownsRow _ _ _ _ _ _ _ from hown).alloc _) _ 1 1 [.int .u8 (v.toNat : Int)] rfl (Rd.one _ _ _ (by simp)) (by intro u hu; simp at hu; subst hu; rfl) (hbr.alloc _) (by omega) (by decide) ?_; intro A2 c2 w3 hown3 hb3 hle3))
     go_roundw
     case rel => exact ⟨k + 3, o ++ [v], A2, c2, m + 1, by omega, by go_num, rfl, by rw [bcs_app]; exact hown3, hle3, by omega, HP.out, hb3⟩
     case measure => simp [intOf]; omega
    have HP := zi (He2.out hctl hun)
    rw [hun] at HU
    clear Hc Hu2 He2 hctl hun
    go_wp2_with fail
    refine (HU.out _).mono ?_; rintro e w5 ⟨rfl, rfl⟩
    go_wp2_with fail
    have hE := hbr.drew
    refine wp_region_held_drew (S := (fun _ => True)) (by kernel_rfl) ?_ (fun hHeld => ?_)
    ·(try dsimp only); (try trivial)
    refine zH (v := ?_) 0 (some 81) rfl ?_ ?_; rotate_left
    ·(intro w hSw; (try dsimp only at hSw); go_simp; (try with_reducible rfl))
    try simp only [zP]
    refine zH (v := ?_) 1 (some 82) rfl ?_ ?_; rotate_left
    ·(intro w hSw; (try dsimp only at hSw); go_simp; (try with_reducible rfl))
    try simp only [zP]
    refine zH (v := ?_) 2 (some 83) rfl ?_ ?_; rotate_left
    ·(intro w hSw; (try dsimp only at hSw); go_simp; (try with_reducible rfl))
    try simp only [zP]
    refine wpAnyH_take (i := 3) (oi := ⟨some 84, _, _, _, _, _⟩) (v := .int .u8 ((hexC (v >>> 4)).toNat : Int)) rfl (by kernel_rfl) (by kernel_rfl) (by kernel_rfl) (fun _ _ _ h => h) (Or.inl ⟨by rfl, ?_⟩) (by assumption) ?_
    ·(intro w hSw; (try dsimp only at hSw); go_simp; rw [dif_pos (hexhi_b v)]; exact congrArg (fun z => Result.ok (Next.value (Value.int IntKind.u8 z)) w) (hexhi v).2)
    try simp only [zP]
    refine zH (v := ?_) 4 (some 85) rfl ?_ ?_; rotate_left
    ·(intro w hSw; (try dsimp only at hSw); go_simp; (try with_reducible rfl))
    try simp only [zP]
    refine zH (v := ?_) 5 (some 86) rfl ?_ ?_; rotate_left
    ·(intro w hSw; (try dsimp only at hSw); go_simp; (try with_reducible rfl))
    try simp only [zP]
    refine wpAnyH_take (i := 6) (oi := ⟨some 87, _, _, _, _, _⟩) (v := .int .u8 ((hexC (v &&& 15)).toNat : Int)) rfl (by kernel_rfl) (by kernel_rfl) (by kernel_rfl) (fun _ _ _ h => h) (Or.inl ⟨by rfl, ?_⟩) (by assumption) ?_
    ·(intro w hSw; (try dsimp only at hSw); go_simp; rw [dif_pos (hexlo_b v)]; exact congrArg (fun z => Result.ok (Next.value (Value.int IntKind.u8 z)) w) (hexlo v).2)
    try simp only [zP]
    refine wpAnyH_ready (rs := [7]) (by kernel_rfl) (by simp) ?_
    refine AllReadyH.cons (o := ⟨some 88, _, _, _, _, _⟩) rfl (fun K hK => ?_) AllReadyH.nil
    have hr8 := rd3 hE (.int .u8 37) (.int .u8 ((hexC (v >>> 4)).toNat : Int)) (.int .u8 ((hexC (v &&& 15)).toNat : Int)) 5; replace hE := hE.alloc (.cells #[.int .u8 37, .int .u8 ((hexC (v >>> 4)).toNat : Int), .int .u8 ((hexC (v &&& 15)).toNat : Int)] 5)
    go_simp
    skip
    try go_wp2_with fail
    refine hK.out _ _ ?_ (fun hHeld => ?_)
    ·(try dsimp only); (try trivial)
    clear hK K
    try simp only [zP]
    refine wpAnyH_ready (rs := [8]) (by kernel_rfl) (by simp) ?_
    refine AllReadyH.cons (o := ⟨some 89, _, _, _, _, _⟩) rfl (fun K hK => ?_) AllReadyH.nil
    refine step_app _ rfl (.tmp 81) (.tmp 88) 23 rfl w 5 _ 1 1 Tryz.underlying23 infoU8 rfl (by decide) _ _ _ rfl (World.ownsRow.alloc (show World.ownsRow _ _ _ _ _ _ _ from hown) _) _ 3 3 [.int .u8 37, .int .u8 ((hexC (v >>> 4)).toNat : Int), .int .u8 ((hexC (v &&& 15)).toNat : Int)] rfl hr8 (bcs_one [37, hexC (v >>> 4), hexC (v &&& 15)]) hE (by omega) (by decide) ?_; intro A2 c2 w3 hown3 hb3 hle3
    refine hK.out _ _ ?_ (fun hHeld => ?_)
    ·(try dsimp only); (try trivial)
    clear hK K
    try simp only [zP]
    refine zH (v := ?_) 9 (some 6) rfl ?_ ?_; rotate_left
    ·(intro w hSw; (try dsimp only at hSw); go_simp; (try with_reducible rfl))
    try simp only [zP]
    refine wpAnyH_done (by kernel_rfl) ?_ _
    go_wp2_with fail
    go_roundw
    case rel => exact ⟨k + 3, o ++ [37, hexC (v >>> 4), hexC (v &&& 15)], A2, c2, m + 3, by omega, by go_num, rfl, by rw [bcs_app]; exact hown3, hle3, by omega, HP.out, hb3⟩
    case measure => simp [intOf]; omega
  ·obtain rfl : k = s.size := by omega
   have HR := zi (Hen.out o Hat.out)
   have hcv := conv_own (X := ⟨o.toArray⟩) (by rw [bcs_by]; exact hown)
   clear hlt hk hown
   go_wp2_with fail
   go_ret2
   exact ⟨ret_v55 (by rw [HR.out]; rfl), hbr⟩
end Go.Proofs.YtmckbcbdnckngaaGreatDoor

namespace Go.Proofs.YtmckbcbdnckngaaGreatDoor
open Go.RowKit

theorem own_shrink {w : World} {base e n c : Nat} {A : Option Addr} {xs : List Value} (h : w.ownsRow base e 1 (.slice A (n + 1) c) (n + 1) xs) : w.ownsRow base e 1 (.slice A n c) n xs.dropLast := by
 have hl := h.1
 refine ⟨by rw [List.length_dropLast]; omega, ?_⟩
 rcases h.2 with ⟨hv, h0⟩ | ⟨g, cap, cur, hv, hb, hg, hle, hm, hs, ht⟩
 ·omega
 ·obtain ⟨rfl, -, rfl⟩ := slice_inj hv
  refine .inr ⟨g, c, cur, rfl, hb, hg, by omega, hm, hs, ?_⟩
  rw [← ht, List.dropLast_eq_take, List.take_take]
  congr 1
  have : (cur.toList.take ((n + 1) * 1)).length = n + 1 := by rw [ht]; omega
  omega
def adrA (o : Option Adr) : Array Value := match o with
 | some a => #[.string ⟨a.host.toArray⟩, .string ⟨a.path.toArray⟩, .string ⟨a.query.toArray⟩, .bool a.has]
 | none => #[.string ⟨#[]⟩, .string ⟨#[]⟩, .string ⟨#[]⟩, .bool false]
theorem mk_app (a b : Bs) : (⟨(a ++ b).toArray⟩ : ByteArray) = ⟨a.toArray⟩ ++ ⟨b.toArray⟩ := by
 apply bytes_ext; rw [data_append]; (try simp)
theorem adr_text (h p q : ByteArray) (has : Bool) (w : World) (hs : h.size + p.size + q.size ≤ 100000000000000) :
  Calls Tryz.prog 98 #[.agg #[.string h, .string p, .string q, .bool has]] w fun e w' => e = .returned (.string (if has then h ++ p ++ ⟨#[63]⟩ ++ q else h ++ p)) ∧ Ext w w' := by
 have h1 : ∀ w, (Op.stringOp .add h p).run Tryz.prog w = .ok (.string (h ++ p)) w := fun w => run_string_add_sum w _ _ (by omega)
 have h2 : ∀ w, (Op.stringOp .add (h ++ p) ⟨#[63]⟩).run Tryz.prog w = .ok (.string (h ++ p ++ ⟨#[63]⟩)) w := fun w => run_string_add_sum w _ _ (by rw [ByteArray.size_append, show (⟨#[63]⟩ : ByteArray).size = 1 from rfl]; omega)
 have h3 : ∀ w, (Op.stringOp .add (h ++ p ++ ⟨#[63]⟩) q).run Tryz.prog w = .ok (.string (h ++ p ++ ⟨#[63]⟩ ++ q)) w := fun w => run_string_add_sum w _ _ (by rw [ByteArray.size_append, ByteArray.size_append, show (⟨#[63]⟩ : ByteArray).size = 1 from rfl]; omega)
 cases has
 ·go_enter Tryz.func98, Tryz.ntmps98
  go_wp2_with fail
  go_ret
  exact ⟨rfl, (Ext.refl w).alloc _⟩
 ·go_enter Tryz.func98, Tryz.ntmps98
  go_wp2_with fail
  go_ret
  exact ⟨rfl, (Ext.refl w).alloc _⟩
theorem text_eq (a : Adr) : (if a.has then (⟨a.host.toArray⟩ : ByteArray) ++ ⟨a.path.toArray⟩ ++ ⟨#[63]⟩ ++ ⟨a.query.toArray⟩ else ⟨a.host.toArray⟩ ++ ⟨a.path.toArray⟩) = ⟨(adText a).toArray⟩ := by
 unfold adText
 cases a.has
 ·rw [if_neg (by simp), if_neg (by simp), mk_app]
 ·rw [if_pos rfl, if_pos rfl, mk_app, mk_app, show (63 :: a.query : Bs) = [63] ++ a.query from rfl, mk_app]
  apply bytes_ext
  simp [data_append]
end Go.Proofs.YtmckbcbdnckngaaGreatDoor

namespace Go.Proofs.YtmckbcbdnckngaaGreatDoor
open Go.RowKit

theorem str_Join (A : Option Addr) (n c : Nat) (ss : List ByteArray) (w : World) (h : RdS w A n ss) (hc : n ≤ c) (hT : totS ss + 2 * n ≤ 70368744177664) :
  Calls Tryz.prog 51 #[.slice A n c, .string ⟨#[44, 32]⟩] w fun e w' => e = .returned (.string (joinS ss)) ∧ Ext w w' := by
 have hl := h.lenS
 by_cases h0 : 0 < n
 ·obtain ⟨b, o, rfl, hcell⟩ := h.2 (by simp; omega)
  have hbk : b < w.heap.size := World.block_lt_of_cell? w _ (hcell 0 (.string (ss[0]'(by omega))) (by simp [List.getElem?_eq_getElem (show 0 < ss.length by omega)]))
  have hj := joinL_len ss
  subst hl
  exact (Tryz.strings_Join b o c ss ⟨#[44, 32]⟩ w (fun j x hx => hcell j _ (by simp [hx])) hbk (by omega) hc (by simp only []; omega)).mono fun e w' hh => ⟨hh.1, hh.2⟩
 ·obtain rfl : n = 0 := by omega
  obtain rfl : ss = [] := List.eq_nil_of_length_eq_zero hl
  exact (Tryz.strings_Join_none A c ⟨#[44, 32]⟩ w).mono fun e w' hh => ⟨hh.1, by rw [hh.2]; exact Ext.refl _⟩
end Go.Proofs.YtmckbcbdnckngaaGreatDoor

namespace Go.Proofs.YtmckbcbdnckngaaGreatDoor
open Go.RowKit

theorem str_Join1 (A : Option Addr) (n c : Nat) (ss : List ByteArray) (s : UInt8) (w : World) (h : RdS w A n ss) (hc : n ≤ c) (hT : totS ss + n ≤ 70368744177664) :
  Calls Tryz.prog 51 #[.slice A n c, .string ⟨#[s]⟩] w fun e w' => e = .returned (.string (jnS s ss)) ∧ Ext w w' := by
 have hl := h.lenS
 have he : (⟨(Lib.join (ss.map (·.data.toList)) [s]).toArray⟩ : ByteArray) = jnS s ss := by rw [jn_join]; rfl
 by_cases h0 : 0 < n
 ·obtain ⟨b, o, rfl, hcell⟩ := h.2 (by simp; omega)
  have hbk : b < w.heap.size := World.block_lt_of_cell? w _ (hcell 0 (.string (ss[0]'(by omega))) (by simp [List.getElem?_eq_getElem (show 0 < ss.length by omega)]))
  have hj := jnS_size s ss
  have hj2 : (Lib.join (ss.map (·.data.toList)) [s]).length ≤ totS ss + ss.length := by
   have : (jnS s ss).size = (Lib.join (ss.map (·.data.toList)) [s]).length := by rw [← he]; show (List.toArray _).size = _; simp
   omega
  subst hl
  rw [← he]
  exact (Tryz.strings_Join b o c ss ⟨#[s]⟩ w (fun j x hx => hcell j _ (by simp [hx])) hbk (by omega) hc (by simp only []; omega)).mono fun e w' hh => ⟨hh.1, hh.2⟩
 ·obtain rfl : n = 0 := by omega
  obtain rfl : ss = [] := List.eq_nil_of_length_eq_zero hl
  exact (Tryz.strings_Join_none A c ⟨#[s]⟩ w).mono fun e w' hh => ⟨hh.1, by rw [hh.2]; exact Ext.refl _⟩
end Go.Proofs.YtmckbcbdnckngaaGreatDoor

namespace Go.Proofs.YtmckbcbdnckngaaGreatDoor
open Go.RowKit


theorem base_Texts (A A2 : Option Addr) (n c n2 c2 : Nat) (xs ys : List ByteArray) (w : World) (hx : RdS w A n xs) (hy : RdS w A2 n2 ys) (hn : n ≤ 9223372036854775807) (hn2 : n2 ≤ 9223372036854775807) :
  Calls Tryz.prog 71 #[.slice A n c, .slice A2 n2 c2] w fun e w' => e = .returned (.bool (decide (xs = ys))) ∧ Ext w w' := by
 have hl := hx.lenS
 have hl2 := hy.lenS
 by_cases hnn : n = n2
 ·subst hnn
  go_enter Tryz.func71, Tryz.ntmps71
  have Hl := zi hl; clear hl
  have Hl2 := zi hl2; clear hl2
  go_wp2_with fail
  go_loopw [13] (fun i wr => ∃ k, k ≤ n ∧ i = .int .i64 (k : Nat) ∧ xs.take k = ys.take k ∧ Ext w wr) (fun i _ => n - (intOf i).toNat)
  case atStart => exact ⟨0, Nat.zero_le _, rfl, rfl, Ext.refl _⟩
  case round =>
   obtain ⟨k, hk, rfl, heq, hbr⟩ := hrel
   have Heq := zi heq; clear heq
   by_cases hlt : k < n
   ·have hlt1 : k < xs.length := by have := Hl.out; omega
    have hlt2 : k < ys.length := by have := Hl2.out; omega
    obtain ⟨b, o, rfl, hc0⟩ := (hx.ext hbr).atS hlt1
    obtain ⟨b2, o2, rfl, hc1⟩ := (hy.ext hbr).atS hlt2
    by_cases he : xs[k] = ys[k]
    ·have Hst := zi (take_eq_step hlt1 hlt2 Heq.out he)
     have hd : (xs[k].toList == ys[k].toList) = true := eqS_iff.2 he
     clear he
     generalize xs[k] = x at *
     generalize ys[k] = y at *
     have hk2 : (k : Int) < (n : Int) := by omega
     go_wp2_with fail
     go_quiet (fail)
     go_wp2
     go_roundw
     case rel => exact ⟨k + 1, by omega, by go_num, Hst.out, hbr.drewN _⟩
     case measure => simp [intOf]; omega
    ·have Hst := zi (ne_of_at hlt1 hlt2 he)
     have hd : (xs[k].toList == ys[k].toList) = false := by
      rw [Bool.eq_false_iff]; exact fun h => he (eqS_iff.1 h)
     clear he
     generalize xs[k] = x at *
     generalize ys[k] = y at *
     have hk2 : (k : Int) < (n : Int) := by omega
     go_wp2_with fail
     go_quiet (fail)
     go_wp2
     go_ret
     exact ⟨congrArg (fun x => Ending.returned (.bool x)) (decide_eq_false Hst.out).symm, hbr.drewN _⟩
   ·obtain rfl : k = n := by omega
    have he : xs = ys := by
     have := Heq.out
     rwa [List.take_of_length_le (by have := Hl.out; omega), List.take_of_length_le (by have := Hl2.out; omega)] at this
    go_wp2
    go_ret
    exact ⟨congrArg (fun x => Ending.returned (.bool x)) (decide_eq_true he).symm, hbr⟩
 ·have he : xs ≠ ys := by intro h; subst h; omega
  go_enter Tryz.func71, Tryz.ntmps71
  have Hl := zi hl; clear hl
  have Hl2 := zi hl2; clear hl2
  go_wp2
  go_ret
  exact ⟨congrArg (fun x => Ending.returned (.bool x)) (decide_eq_false he).symm, Ext.refl _⟩
end Go.Proofs.YtmckbcbdnckngaaGreatDoor

namespace Go.Proofs.YtmckbcbdnckngaaGreatDoor
open Go.RowKit

theorem inB_m1 : inB ⟨#[33, 36, 38, 39, 40, 41, 42, 43, 44, 59, 61, 58, 64, 47]⟩ = markC := by
 funext c
 have h : ∀ n : Fin 256, inB ⟨#[33, 36, 38, 39, 40, 41, 42, 43, 44, 59, 61, 58, 64, 47]⟩ (UInt8.ofFin n) = markC (UInt8.ofFin n) := by decide +kernel
 have := h c.toFin
 simpa only [UInt8.ofFin_toFin] using this
theorem inB_m2 : inB ⟨#[33, 36, 38, 39, 40, 41, 42, 43, 44, 59, 61, 58, 64, 47, 63]⟩ = markQ := by
 funext c
 have h : ∀ n : Fin 256, inB ⟨#[33, 36, 38, 39, 40, 41, 42, 43, 44, 59, 61, 58, 64, 47, 63]⟩ (UInt8.ofFin n) = markQ (UInt8.ofFin n) := by decide +kernel
 have := h c.toFin
 simpa only [UInt8.ofFin_toFin] using this
theorem can_len {oth : UInt8 → Bool} : ∀ (n : Nat) (l r : Bs), l.length ≤ n → canL oth l = some r → r.length ≤ l.length := by
 intro n
 induction n with
 | zero =>
  intro l r hl h
  match l, hl with
  | [], _ => unfold canL at h; injection h with h; subst h; exact Nat.le_refl _
 | succ n ih =>
  intro l r hl h
  match l, hl with
  | [], _ => unfold canL at h; injection h with h; subst h; exact Nat.le_refl _
  | c :: l, hl =>
   have hl' : l.length ≤ n := by simpa using hl
   unfold canL at h
   by_cases hc : c ≠ 37
   ·rw [if_pos hc] at h
    split at h
    ·cases hx : canL oth l with
     | none => rw [hx] at h; cases h
     | some q => rw [hx] at h; injection h with h; subst h; have := ih l q hl' hx; simp; omega
    ·cases h
   ·rw [if_neg hc] at h
    match l, hl' with
    | [], _ => cases h
    | [_], _ => cases h
    | a :: b :: q, hl' =>
     have hq : q.length ≤ n := by simp at hl'; omega
     dsimp only at h
     split at h
     ·cases h
     ·split at h
      ·cases h
      ·split at h
       ·cases hx : canL oth q with
        | none => rw [hx] at h; cases h
        | some z => rw [hx] at h; injection h with h; subst h; have := ih q z hq hx; simp; omega
       ·cases hx : canL oth q with
        | none => rw [hx] at h; cases h
        | some z => rw [hx] at h; injection h with h; subst h; have := ih q z hq hx; simp; omega
theorem can_slash {l p : Bs} (h : canL markC (47 :: l) = some p) : ∃ q, p = 47 :: q := by
 unfold canL at h
 rw [if_pos (by decide), if_pos (by decide)] at h
 cases hx : canL markC l with
 | none => rw [hx] at h; cases h
 | some q => rw [hx] at h; injection h with h; exact ⟨q, h.symm⟩
theorem sp_lens (c : UInt8) : ∀ (l : Bs), ∀ s ∈ spL c l, s.length ≤ l.length
 | [] => fun s hs => by simp [spL] at hs; subst hs; exact Nat.le_refl _
 | x :: l => fun s hs => by
  have ih := sp_lens c l
  unfold spL at hs
  by_cases hx : x = c
  ·rw [if_pos hx] at hs
   rcases List.mem_cons.1 hs with rfl | hs
   ·exact Nat.zero_le _
   ·have := ih s hs; simp; omega
  ·rw [if_neg hx] at hs
   cases hl : spL c l with
   | nil => exact absurd hl (sp_ne c l)
   | cons h t =>
    rw [hl] at hs
    rcases List.mem_cons.1 hs with rfl | hs
    ·have := ih h (by rw [hl]; exact List.mem_cons_self ..); simp; omega
    ·have := ih s (by rw [hl]; exact List.mem_cons_of_mem _ hs); simp; omega
theorem cut_lens (c : UInt8) : ∀ (l : Bs), (cutL c l).1.length + (cutL c l).2.1.length ≤ l.length
 | [] => Nat.le_refl _
 | x :: l => by
  have ih := cut_lens c l
  unfold cutL
  split
  ·simp
  ·simp only [List.length_cons]; omega
/-! What Parse says, step by step. -/
theorem adP_host {ho ta : Bs} (h : hostL ho = none) : adP ho ta = none := by unfold adP; rw [h]
theorem adP_slash {ho ta h : Bs} (h1 : hostL ho = some h) (h2 : (cutL 63 ta).1.head? ≠ some 47) : adP ho ta = none := by unfold adP; rw [h1]; exact if_pos h2
theorem adP_can {ho ta h : Bs} (h1 : hostL ho = some h) (h2 : canL markC (cutL 63 ta).1 = none ∨ canL markQ (cutL 63 ta).2.1 = none) : adP ho ta = none := by
 unfold adP; rw [h1]
 dsimp only
 split
 ·rfl
 ·rcases h2 with h2 | h2
  ·rw [h2]
  ·rw [h2]; cases canL markC (cutL 63 ta).1 <;> rfl
theorem adP_seg {ho ta h p q : Bs} (h1 : hostL ho = some h) (h2 : (cutL 63 ta).1.head? = some 47) (hp : canL markC (cutL 63 ta).1 = some (47 :: p)) (hq : canL markQ (cutL 63 ta).2.1 = some q) :
  adP ho ta = match segF [] (spL 47 p) with
   | none => none
   | some left => if (adText ⟨h, 47 :: jnL 47 left, q, (cutL 63 ta).2.2⟩).length ≤ 1024 then some ⟨h, 47 :: jnL 47 left, q, (cutL 63 ta).2.2⟩ else none := by
 unfold adP; rw [h1]
 dsimp only
 rw [if_neg (by rw [h2]; simp), hp, hq]
 try rfl
/-! The segments, over byte strings. -/
def sgB (LB R : List ByteArray) : Option (List Bs) := segF (LB.map bsL) (R.map bsL)
def dotB : ByteArray := ⟨#[46]⟩
def dotsB : ByteArray := ⟨#[46, 46]⟩
theorem bs_inj {a b : ByteArray} (h : bsL a = bsL b) : a = b := bytes_ext h
theorem drop_empty {V : List ByteArray} {k : Nat} (hk : k < V.length) : ((V.drop (k + 1)).map bsL).isEmpty = decide (k + 1 = V.length) := by
 rw [List.isEmpty_map]
 by_cases hl : k + 1 = V.length
 ·rw [decide_eq_true hl, List.isEmpty_iff, List.drop_eq_nil_iff]; omega
 ·rw [decide_eq_false hl, Bool.eq_false_iff, ne_eq, List.isEmpty_iff, List.drop_eq_nil_iff]; omega
theorem sgB_dot {LB V : List ByteArray} {k : Nat} (hk : k < V.length) (h : V[k] = dotB) : sgB LB (V.drop k) = sgB (if k + 1 = V.length then LB ++ [⟨#[]⟩] else LB) (V.drop (k + 1)) := by
 unfold sgB
 rw [List.drop_eq_getElem_cons hk, List.map_cons, h]
 conv => lhs; unfold segF
 rw [if_pos (show bsL dotB = dotL from rfl), drop_empty hk]
 by_cases hl : k + 1 = V.length
 ·rw [decide_eq_true hl, if_pos rfl, if_pos hl, List.map_append]; rfl
 ·rw [decide_eq_false hl, if_neg (by simp), if_neg hl]
theorem sgB_dots0 {V : List ByteArray} {k : Nat} (hk : k < V.length) (h : V[k] = dotsB) : sgB [] (V.drop k) = none := by
 unfold sgB
 rw [List.drop_eq_getElem_cons hk, List.map_cons, h]
 unfold segF
 rw [if_neg (show ¬ bsL dotsB = dotL by decide), if_pos (show bsL dotsB = dotsL from rfl)]
 try rfl
theorem sgB_dots {LB V : List ByteArray} {k : Nat} (hk : k < V.length) (h : V[k] = dotsB) (h0 : LB ≠ []) : sgB LB (V.drop k) = sgB (if k + 1 = V.length then LB.dropLast ++ [⟨#[]⟩] else LB.dropLast) (V.drop (k + 1)) := by
 unfold sgB
 rw [List.drop_eq_getElem_cons hk, List.map_cons, h]
 conv => lhs; unfold segF
 rw [if_neg (show ¬ bsL dotsB = dotL by decide), if_pos (show bsL dotsB = dotsL from rfl), drop_empty hk]
 have h1 : (LB.map bsL).isEmpty = false := by cases LB with | nil => exact absurd rfl h0 | cons a b => rfl
 rw [h1, if_neg (by simp), List.map_dropLast.symm]
 by_cases hl : k + 1 = V.length
 ·rw [decide_eq_true hl, if_pos rfl, if_pos hl, List.map_append]; rfl
 ·rw [decide_eq_false hl, if_neg (by simp), if_neg hl]
theorem sgB_plain {LB V : List ByteArray} {k : Nat} (hk : k < V.length) (h1 : V[k] ≠ dotB) (h2 : V[k] ≠ dotsB) : sgB LB (V.drop k) = sgB (LB ++ [V[k]]) (V.drop (k + 1)) := by
 unfold sgB
 rw [List.drop_eq_getElem_cons hk, List.map_cons]
 conv => lhs; unfold segF
 have e1 : ¬ bsL V[k] = dotL := fun e => h1 (bs_inj (b := dotB) e)
 have e2 : ¬ bsL V[k] = dotsL := fun e => h2 (bs_inj (b := dotsB) e)
 rw [if_neg e1, if_neg e2, List.map_append]; rfl
end Go.Proofs.YtmckbcbdnckngaaGreatDoor
