
/- Plain facts on memory that all proofs of this seat use: a slice that reads as a list of cells, and append onto a slice of the call's own. No condition. -/
import Derived.Below
import Derived.WalkKit
import Derived.WalkSpells
import Derived.WalkSmall
import Derived.WalkLawsBesides
import Derived.Lib.Hide
set_option linter.unusedSimpArgs false
set_option linter.unusedVariables false
namespace Go.Proofs.YtaebbnadmfbdjaaDoor
open Go.RowKit

/-- w' is w with more memory: nothing that was there has changed. -/
def Ext (w w' : World) : Prop := Below w.heap.size w w'
theorem Ext.below {w w' : World} (h : Ext w w') : Below w.heap.size w w' := h
theorem Ext.refl (w : World) : Ext w w := Below.refl _ _
theorem Ext.size {w w' : World} (h : Ext w w') : w.heap.size ≤ w'.heap.size := h.below.size
theorem Ext.trans {a b c : World} (h : Ext a b) (k : Ext b c) : Ext a c := h.below.trans (k.below.mono h.size)
theorem Ext.alloc {a w : World} (h : Ext a w) (o : Obj) : Ext a (w.alloc o) := h.below.alloc h.size o
theorem Ext.drew {a w : World} (h : Ext a w) : Ext a w.drew := h.below.drew
theorem Ext.drewN {a w : World} (h : Ext a w) (n : Nat) : Ext a (w.drewN n) := below_drewN h.below n
theorem Ext.setCell {a w : World} (h : Ext a w) {p : Addr} (hp : a.heap.size ≤ p.block) (u : Value) : Ext a (w.setCell p u) := h.below.setCell hp u
theorem Ext.grown {a w w' : World} {row : Option Nat} (h : Ext a w) (hg : w.grownBy w' row) (hr : ∀ k, row = some k → a.heap.size ≤ k) : Ext a w' := h.below.grown hg h.size hr
theorem Ext.cells {w w' : World} (h : Ext w w') : ∀ b o, b < w.heap.size → w'.cell? ⟨b, o, none⟩ = w.cell? ⟨b, o, none⟩ := fun b o hb => h.below.cell (p := ⟨b, o, none⟩) hb
theorem Ext.frozens {w w' : World} (h : Ext w w') : ∀ b o, b < w.heap.size → w'.frozen? ⟨b, o, none⟩ = w.frozen? ⟨b, o, none⟩ := fun b o hb => h.below.frozen (p := ⟨b, o, none⟩) hb
theorem Ext.cell {w w' : World} (hb : Ext w w') {p : Addr} {u : Value} (h : w.cell? p = some u) : w'.cell? p = some u :=
  (hb.below.cell (World.block_lt_of_cell? w p h)).trans h

/-- The slice whose address is A, of n elements of k cells each, reads as the cells xs. -/
def Rd (w : World) (k : Nat) (A : Option Addr) (n : Nat) (xs : List Value) : Prop :=
  xs.length = n * k ∧ (0 < xs.length → ∃ b o, A = some ⟨b, o, none⟩ ∧ ∀ j u, xs[j]? = some u → w.cell? ⟨b, o + j, none⟩ = some u)

theorem add_plain (b o j : Nat) : (⟨b, o, none⟩ : Addr).add j = ⟨b, o + j, none⟩ := by unfold Addr.add; split <;> simp_all

theorem Rd.none_ (w : World) (k : Nat) (A : Option Addr) : Rd w k A 0 [] := ⟨by simp, fun h => absurd h (by simp)⟩
theorem Rd.keep {w w' : World} {k n : Nat} {A : Option Addr} {xs : List Value} (h : Rd w k A n xs)
    (hk : ∀ p u, w.cell? p = some u → w'.cell? p = some u) : Rd w' k A n xs :=
  ⟨h.1, fun hn => by
    obtain ⟨b, o, e, hc⟩ := h.2 hn
    exact ⟨b, o, e, fun j u hu => hk _ _ (hc j u hu)⟩⟩
theorem Rd.ext {w w' : World} {k n : Nat} {A : Option Addr} {xs : List Value} (h : Rd w k A n xs) (hb : Ext w w') : Rd w' k A n xs :=
  h.keep fun _ _ => hb.cell
theorem Rd.alloc {w : World} {k n : Nat} {A : Option Addr} {xs : List Value} (h : Rd w k A n xs) (o : Obj) : Rd (w.alloc o) k A n xs :=
  h.ext ((Ext.refl _).alloc o)
theorem Rd.drew {w : World} {k n : Nat} {A : Option Addr} {xs : List Value} (h : Rd w k A n xs) : Rd w.drew k A n xs := h
theorem Rd.at_ {w : World} {k n : Nat} {A : Option Addr} {xs : List Value} (h : Rd w k A n xs) (hn : 0 < xs.length) :
    ∃ b o, A = some ⟨b, o, none⟩ ∧ ∀ j u, xs[j]? = some u → w.cell? ⟨b, o + j, none⟩ = some u := h.2 hn
theorem Rd.of_own {w : World} {base k n : Nat} {e : TypeId} {A : Option Addr} {c : Nat} {xs : List Value} (h : w.ownsRow base e k (.slice A n c) n xs) : Rd w k A n xs := by
  refine ⟨h.1, fun hn => ?_⟩
  rcases h.2 with ⟨hv, h0⟩ | ⟨g, cap, cur, hv, rest⟩
  · have := h.1; subst h0; simp at this; subst this; simp at hn
  · have hA : A = some ⟨g, 0, none⟩ := by injection hv
    subst hA
    refine ⟨g, 0, rfl, fun j u hu => ?_⟩
    rw [← add_plain]
    exact h.cells (g := g) rfl j u hu
theorem Rd.take {w : World} {k n : Nat} {A : Option Addr} {xs : List Value} (h : Rd w k A n xs) {i : Nat} (hi : i ≤ n) : Rd w k A i (xs.take (i * k)) := by
  have hle : i * k ≤ n * k := Nat.mul_le_mul_right _ hi
  have hl : (xs.take (i * k)).length = i * k := by rw [List.length_take, h.1]; omega
  refine ⟨hl, fun hp => ?_⟩
  obtain ⟨b, o, e, hc⟩ := h.2 (by rw [h.1]; omega)
  refine ⟨b, o, e, fun j u hu => hc j u ?_⟩
  rw [List.getElem?_take] at hu
  split at hu
  · exact hu
  · cases hu
theorem Rd.drop {w : World} {k n cap : Nat} {A : Option Addr} {xs : List Value} (h : Rd w k A n xs) {i : Nat} (hi : i ≤ n) (hc : n ≤ cap) :
    Rd w k (if cap = i then A else A.map (·.add (i * k))) (n - i) (xs.drop (i * k)) := by
  have hl : (xs.drop (i * k)).length = (n - i) * k := by rw [List.length_drop, h.1, Nat.sub_mul]
  refine ⟨hl, fun hp => ?_⟩
  have hlt : i < n := by
    rcases Nat.lt_or_ge i n with h1 | h1
    · exact h1
    · rw [hl, show n - i = 0 by omega] at hp; simp at hp
  obtain ⟨b, o, rfl, hcell⟩ := h.2 (by rw [List.length_drop] at hp; omega)
  rw [if_neg (by omega)]
  refine ⟨b, o + i * k, by simp [add_plain], fun j u hu => ?_⟩
  rw [List.getElem?_drop] at hu
  rw [Nat.add_assoc]
  exact hcell _ u hu
theorem Rd.clip {w : World} {k n : Nat} {A : Option Addr} {xs : List Value} (h : Rd w k A n xs) : Rd w k (if n = 0 then A else A.map (·.add (0 * k))) n xs := by
  split
  · exact h
  · refine ⟨h.1, fun hp => ?_⟩
    obtain ⟨b, o, rfl, hc⟩ := h.2 hp
    exact ⟨b, o, by simp [Addr.add], hc⟩
theorem Rd.one (w : World) (u : Value) (e : TypeId) {b : Nat} (hb : b = w.heap.size) : Rd (w.alloc (.cells #[u] e)) 1 (some ⟨b, 0, none⟩) 1 [u] :=
  ⟨rfl, fun _ => ⟨_, _, rfl, fun j v hj => by rw [hb, ← add_plain]; exact cell_one_new _ _ _ j v hj⟩⟩
theorem Rd.two (w : World) (u v : Value) (e : TypeId) {b : Nat} (hb : b = w.heap.size) : Rd (w.alloc (.cells #[u, v] e)) 2 (some ⟨b, 0, none⟩) 1 [u, v] :=
  ⟨rfl, fun _ => ⟨_, _, rfl, fun j x hj => by rw [hb, ← add_plain]; exact cell_two_new _ _ _ _ j x hj⟩⟩

theorem Rd.lit (w : World) (cs : Array Value) (e : TypeId) {b : Nat} (hb : b = w.heap.size) (k n : Nat) (h : cs.size = n * k) : Rd (w.alloc (.cells cs e)) k (some ⟨b, 0, none⟩) n cs.toList :=
  ⟨by simpa using h, fun _ => ⟨_, _, rfl, fun j u hj => by
    rw [hb, Nat.zero_add, World.cell?_alloc_mark]
    simpa using hj⟩⟩

/-- The slice that a call owns, as a value with its parts. -/
theorem own_shape {w : World} {base e k n : Nat} {v : Value} {xs : List Value} (h : w.ownsRow base e k v n xs) :
    ∃ A c, v = .slice A n c ∧ n ≤ c := by
  rcases h.2 with ⟨rfl, rfl⟩ | ⟨g, cap, cur, rfl, _, _, hle, _⟩
  · exact ⟨_, _, rfl, Nat.le_refl _⟩
  · exact ⟨_, _, rfl, hle⟩

theorem own_ext {w w' : World} {base e k n : Nat} {v : Value} {xs : List Value} (h : w.ownsRow base e k v n xs) (hb : Ext w w') : w'.ownsRow base e k v n xs := by
  refine ⟨h.1, ?_⟩
  rcases h.2 with hn | ⟨g, cap, cur, rfl, hbb, hgg, rest⟩
  · exact .inl hn
  · refine .inr ⟨g, cap, cur, rfl, hbb, ?_, rest⟩
    rw [hb.below.block g (Array.getElem?_eq_some_iff.1 hgg).1]
    exact hgg
theorem own_base {w : World} {base base' e k n : Nat} {v : Value} {xs : List Value} (h : w.ownsRow base e k v n xs) (hb : base' ≤ base) : w.ownsRow base' e k v n xs := by
  refine ⟨h.1, ?_⟩
  rcases h.2 with hn | ⟨g, cap, cur, rfl, hbb, rest⟩
  · exact .inl hn
  · exact .inr ⟨g, cap, cur, rfl, Nat.le_trans hb hbb, rest⟩

section
variable {P : Program} (w : World)

/-- What 'append' onto an own slice gives, whatever the source. -/
theorem run_app (base : Nat) (t ty e : TypeId) (z : Value) (size bytes : Nat) (ht : P.underlying t = some (.slice e))
    (hinfo : (P.info? e).map (fun i => (i.zero, i.size, i.bytes)) = some (some z, size, bytes)) (hzs : z.cells.size = size) (hsz : 0 < size)
    (v : Value) (n : Nat) (xs : List Value) (hown : w.ownsRow base e size v n xs)
    (A : Option Addr) (m c : Nat) (news : List Value) (hr : Rd w size A m news) (h1 : ∀ u ∈ news, u.oneCell' = true)
    (h63 : n + m ≤ maxLen) (hbytes : (n + m) * bytes ≤ 140737488355328) (hbase : base ≤ w.heap.size) :
    ∃ v' w', (Builtin.append_ #[t, t] ty #[v, .slice A m c]).run P w = .ok v' w' ∧ w'.ownsRow base e size v' (n + m) (xs ++ news) ∧ w.grownBy w' v.ownBlock := by
  obtain ⟨i, hi, hz, hsize, hby⟩ := info_parts hinfo
  by_cases hnn : 0 < news.length
  · obtain ⟨b, o, rfl, hc⟩ := hr.2 hnn
    obtain ⟨v', w', hrun, h2, h3, _⟩ := run_append_own (P := P) w base t ty e i z size bytes ht hi hz hsize hby hzs hsz v n xs hown ⟨b, o, none⟩ m c news hr.1 (fun j u hu => by rw [add_plain]; exact hc j u hu) h1 h63 hbytes hbase
    exact ⟨v', w', hrun, h2, h3⟩
  · have hn0 : news = [] := List.eq_nil_of_length_eq_zero (by omega)
    subst hn0
    have hm : m = 0 := by
      rcases Nat.eq_zero_or_pos m with h | h
      · exact h
      · have h1 := hr.1
        have h2 := Nat.mul_pos h hsz
        rw [List.length_nil] at h1
        omega
    subst hm
    rcases A with _ | ad
    · refine ⟨v, w, ?_, by simpa using hown, World.grownBy.refl w _⟩
      rcases hown.2 with ⟨rfl, rfl⟩ | ⟨g, cap, cur, rfl, _, _, hnc, _⟩
      · simp [Builtin.append_, run_underlying ht, sizeOf, typeInfo, hi, Builtin.lenOf, Builtin.firstCells]
      · simp [Builtin.append_, run_underlying ht, sizeOf, typeInfo, hi, Builtin.lenOf, Builtin.firstCells, hnc, storeCells]
    · obtain ⟨v', w', hrun, h2, h3, _⟩ := run_append_own (P := P) w base t ty e i z size bytes ht hi hz hsize hby hzs hsz v n xs hown ad 0 c [] (by simp) (fun j u hu => by simp at hu) h1 h63 hbytes hbase
      exact ⟨v', w', hrun, h2, h3⟩

theorem wp_app {o : Oper} {a : Act} {K : Act → World → Prop} {Q : Exit → Act → World → Prop} (s x : Operand) (t : TypeId)
    (ho : o.op = .call { callee := .builtin .append, args := #[s, x], argTypes := #[t, t] })
    (w0 : World) (e : TypeId) (z : Value) (size bytes : Nat) (ht : P.underlying t = some (.slice e))
    (hinfo : (P.info? e).map (fun i => (i.zero, i.size, i.bytes)) = some (some z, size, bytes)) (hzs : z.cells.size = size) (hsz : 0 < size)
    (v : Value) (n : Nat) (xs : List Value) (hs : a.eval s = v) (hown : w.ownsRow w0.heap.size e size v n xs)
    (A : Option Addr) (m c : Nat) (news : List Value) (hx : a.eval x = .slice A m c) (hr : Rd w size A m news) (h1 : ∀ u ∈ news, u.oneCell' = true)
    (hb : Ext w0 w) (hbytes : (n + m) * bytes ≤ 140737488355328) (hby0 : 0 < bytes)
    (h : ∀ A' c' w', w'.ownsRow w0.heap.size e size (.slice A' (n + m) c') (n + m) (xs ++ news) → Ext w0 w' → n + m ≤ c' → K (a.put o.dst (.slice A' (n + m) c')) w') : o.wp P a w K Q := by
  have h63 : n + m ≤ maxLen := by
    have : (n + m) * 1 ≤ (n + m) * bytes := Nat.mul_le_mul_left _ hby0
    simp only [maxLen]; omega
  obtain ⟨v', w', hrun, h2, h3⟩ := run_app (P := P) w w0.heap.size t o.type e z size bytes ht hinfo hzs hsz v n xs hown A m c news hr h1 h63 hbytes hb.size
  obtain ⟨A', c', rfl, hle⟩ := own_shape h2
  unfold Oper.wp execOp
  simp only [ho, resolve, invoke, builtin, Sem.run_bind, Sem.run_pure, Result.andThen_ok, List.map_toArray, List.map_cons, List.map_nil, hs, hx, hrun]
  exact h A' c' w' h2 (hb.grown h3 (fun k hk => (hown.lt k hk).1)) hle

theorem wpList_app {ops : Array Oper} {rest : List Oper} {o : Oper} {a : Act} {Q : Exit → Act → World → Prop} (hgd : o.guard = none) (s x : Operand) (t : TypeId)
    (ho : o.op = .call { callee := .builtin .append, args := #[s, x], argTypes := #[t, t] })
    (w0 : World) (e : TypeId) (z : Value) (size bytes : Nat) (ht : P.underlying t = some (.slice e))
    (hinfo : (P.info? e).map (fun i => (i.zero, i.size, i.bytes)) = some (some z, size, bytes)) (hzs : z.cells.size = size) (hsz : 0 < size)
    (v : Value) (n : Nat) (xs : List Value) (hs : a.eval s = v) (hown : w.ownsRow w0.heap.size e size v n xs)
    (A : Option Addr) (m c : Nat) (news : List Value) (hx : a.eval x = .slice A m c) (hr : Rd w size A m news) (h1 : ∀ u ∈ news, u.oneCell' = true)
    (hb : Ext w0 w) (hbytes : (n + m) * bytes ≤ 140737488355328) (hby0 : 0 < bytes)
    (h : ∀ A' c' w', w'.ownsRow w0.heap.size e size (.slice A' (n + m) c') (n + m) (xs ++ news) → Ext w0 w' → n + m ≤ c' → wpList P ops Q rest (a.put o.dst (.slice A' (n + m) c')) w') : wpList P ops Q (o :: rest) a w :=
  wpList_plain hgd fun _ hK => wp_app w s x t ho w0 e z size bytes ht hinfo hzs hsz v n xs hs hown A m c news hx hr h1 hb hbytes hby0 fun A' c' w' p q r => hK _ _ (h A' c' w' p q r)

/-- The same at a guarded operation whose guard says yes. -/
theorem wpList_appG {ops : Array Oper} {rest : List Oper} {o : Oper} {a : Act} {Q : Exit → Act → World → Prop} (hw : Region.wanted o (yielded ops a.tmps) = true) (s x : Operand) (t : TypeId)
    (ho : o.op = .call { callee := .builtin .append, args := #[s, x], argTypes := #[t, t] })
    (w0 : World) (e : TypeId) (z : Value) (size bytes : Nat) (ht : P.underlying t = some (.slice e))
    (hinfo : (P.info? e).map (fun i => (i.zero, i.size, i.bytes)) = some (some z, size, bytes)) (hzs : z.cells.size = size) (hsz : 0 < size)
    (v : Value) (n : Nat) (xs : List Value) (hs : a.eval s = v) (hown : w.ownsRow w0.heap.size e size v n xs)
    (A : Option Addr) (m c : Nat) (news : List Value) (hx : a.eval x = .slice A m c) (hr : Rd w size A m news) (h1 : ∀ u ∈ news, u.oneCell' = true)
    (hb : Ext w0 w) (hbytes : (n + m) * bytes ≤ 140737488355328) (hby0 : 0 < bytes)
    (h : ∀ A' c' w', w'.ownsRow w0.heap.size e size (.slice A' (n + m) c') (n + m) (xs ++ news) → Ext w0 w' → n + m ≤ c' → wpList P ops Q rest (a.put o.dst (.slice A' (n + m) c')) w') : wpList P ops Q (o :: rest) a w :=
  wpList_step fun K hK => by
    rw [if_pos hw]
    exact wp_app w s x t ho w0 e z size bytes ht hinfo hzs hsz v n xs hs hown A m c news hx hr h1 hb hbytes hby0 fun A' c' w' p q r => hK _ _ (h A' c' w' p q r)

/-- The same inside a region that draws its order. -/
theorem step_app {ops : Array Oper} {o : Oper} {a : Act} {K : Act → World → Prop} {Q : Exit → Act → World → Prop} {E : Prop} (hgd : o.guard = none) (s x : Operand) (t : TypeId)
    (ho : o.op = .call { callee := .builtin .append, args := #[s, x], argTypes := #[t, t] })
    (w0 : World) (e : TypeId) (z : Value) (size bytes : Nat) (ht : P.underlying t = some (.slice e))
    (hinfo : (P.info? e).map (fun i => (i.zero, i.size, i.bytes)) = some (some z, size, bytes)) (hzs : z.cells.size = size) (hsz : 0 < size)
    (v : Value) (n : Nat) (xs : List Value) (hs : a.eval s = v) (hown : w.ownsRow w0.heap.size e size v n xs)
    (A : Option Addr) (m c : Nat) (news : List Value) (hx : a.eval x = .slice A m c) (hr : Rd w size A m news) (h1 : ∀ u ∈ news, u.oneCell' = true)
    (hb : Ext w0 w) (hbytes : (n + m) * bytes ≤ 140737488355328) (hby0 : 0 < bytes)
    (h : ∀ A' c' w', w'.ownsRow w0.heap.size e size (.slice A' (n + m) c') (n + m) (xs ++ news) → Ext w0 w' → n + m ≤ c' → K (a.put o.dst (.slice A' (n + m) c')) w') :
    if Region.wanted o (yielded ops a.tmps) = true then Oper.wp P o a w K Q else E := by
  rw [if_pos (by simp [Region.wanted, hgd])]
  exact wp_app w s x t ho w0 e z size bytes ht hinfo hzs hsz v n xs hs hown A m c news hx hr h1 hb hbytes hby0 h
end

section
variable {P : Program} (w : World)

/-- Append onto whatever slice that has no room: a new array. -/
theorem wpList_appF {ops : Array Oper} {rest : List Oper} {o : Oper} {a : Act} {Q : Exit → Act → World → Prop} (hgd : o.guard = none) (s x : Operand) (t : TypeId)
    (ho : o.op = .call { callee := .builtin .append, args := #[s, x], argTypes := #[t, t] })
    (base : Nat) (e : TypeId) (z : Value) (size bytes : Nat) (ht : P.underlying t = some (.slice e))
    (hinfo : (P.info? e).map (fun i => (i.zero, i.size, i.bytes)) = some (some z, size, bytes)) (hzs : z.cells.size = size) (hsz : 0 < size)
    (A0 : Option Addr) (n cap : Nat) (xs : List Value) (hs : a.eval s = .slice A0 n cap) (hr0 : Rd w size A0 n xs) (hnil : A0 = none → n = 0 ∧ cap = 0)
    (A : Option Addr) (m c : Nat) (news : List Value) (hx : a.eval x = .slice A m c) (hr : Rd w size A m news) (h1 : ∀ u ∈ news, u.oneCell' = true) (hm : 0 < m) (hroom : cap < n + m)
    (hbase : base ≤ w.heap.size) (hbytes : (n + m) * bytes ≤ 140737488355328) (hby0 : 0 < bytes)
    (h : ∀ A' c' w', w'.ownsRow base e size (.slice A' (n + m) c') (n + m) (xs ++ news) → Ext w w' → n + m ≤ c' → wpList P ops Q rest (a.put o.dst (.slice A' (n + m) c')) w') : wpList P ops Q (o :: rest) a w := by
  refine wpList_plain hgd fun K hK => ?_
  have h63 : n + m ≤ maxLen := by
    have : (n + m) * 1 ≤ (n + m) * bytes := Nat.mul_le_mul_left _ hby0
    simp only [maxLen]; omega
  have hnl : 0 < news.length := by rw [hr.1]; exact Nat.mul_pos hm hsz
  obtain ⟨i, hi, hz, hsize, hby⟩ := info_parts hinfo
  subst hsize
  subst hby
  obtain ⟨b, o', rfl, hc⟩ := hr.2 hnl
  have hnews : ∀ j u, news[j]? = some u → w.cell? ((⟨b, o', none⟩ : Addr).add j) = some u := fun j u hu => by rw [add_plain]; exact hc j u hu
  have hmm : n + m ≤ 9223372036854775807 := by simp only [maxLen] at h63; omega
  have key : ∃ v' w', (Builtin.append_ #[t, t] o.type #[.slice A0 n cap, .slice (some ⟨b, o', none⟩) m c]).run P w = .ok v' w' ∧ w'.ownsRow base e i.size v' (n + m) (xs ++ news) ∧ w.grownBy w' none := by
    rcases A0 with _ | ad
    · obtain ⟨rfl, rfl⟩ := hnil rfl
      have hx0 : xs = [] := List.eq_nil_of_length_eq_zero (by have := hr0.1; simpa using this)
      subst hx0
      obtain ⟨v', w', h1, h2, h3⟩ := run_app (P := P) w base t o.type e z i.size i.bytes ht hinfo hzs hsz (.slice none 0 0) 0 [] (World.ownsRow_nil _ _ _ _) (some ⟨b, o', none⟩) m c news hr h1 h63 hbytes hbase
      exact ⟨v', w', h1, h2, h3⟩
    · have holds : ∀ j u, xs[j]? = some u → w.cell? (ad.add j) = some u := by
        intro j u hu
        have hpos : 0 < xs.length := Nat.lt_of_le_of_lt (Nat.zero_le _) (List.getElem?_eq_some_iff.1 hu).1
        obtain ⟨b2, o2, he, hcc⟩ := hr0.2 hpos
        injection he with he
        subst he
        rw [add_plain]; exact hcc j u hu
      refine ⟨_, _, run_append_grow (P := P) w t o.type e i z ht hi hz ad n cap xs hr0.1 holds ⟨b, o', none⟩ m c news hr.1 hnews hroom (by omega) (growslice_fits (by omega) hbytes), ?_, ⟨rfl, rfl, rfl, by simp, fun k hk _ => Below.heap_alloc w.drew _ k hk⟩⟩
      have hge := grownCap_ge w (n + m) cap e
      refine ⟨by rw [List.length_append, hr0.1, hr.1, Nat.add_mul], .inr ⟨w.heap.size, _, _, rfl, hbase, heap_alloc_new w.drew _, hge, grownCap_le_maxLen w (n + m) cap e h63, ?_, ?_⟩⟩
      · simp only [Array.size_append, List.size_toArray, size_zeroCells, hzs, hr0.1, hr.1, ← Nat.add_mul]
        congr 1
        omega
      · have hl : (xs ++ news).length = (n + m) * i.size := by rw [List.length_append, hr0.1, hr.1, Nat.add_mul]
        simp only [Array.toList_append, List.append_assoc]
        rw [← List.append_assoc, ← hl]
        exact List.take_left
  obtain ⟨v', w', hrun, h2, h3⟩ := key
  obtain ⟨A', c', rfl, hle⟩ := own_shape h2
  unfold Oper.wp execOp
  simp only [ho, resolve, invoke, builtin, Sem.run_bind, Sem.run_pure, Result.andThen_ok, List.map_toArray, List.map_cons, List.map_nil, hs, hx, hrun]
  exact hK _ _ (h A' c' w' h2 ((Ext.refl w).grown h3 (fun k hk => by cases hk)) hle)
end

/-- Strings as cells, pairs of strings as cells. -/
abbrev strCells (l : List ByteArray) : List Value := l.map Value.string
def fldCells (l : List (ByteArray × ByteArray)) : List Value := l.flatMap fun f => [.string f.1, .string f.2]

theorem strCells_one (l : List ByteArray) : ∀ u ∈ strCells l, u.oneCell' = true := by
  intro u hu; simp at hu; obtain ⟨s, _, rfl⟩ := hu; rfl
theorem fldCells_one (l : List (ByteArray × ByteArray)) : ∀ u ∈ fldCells l, u.oneCell' = true := by
  intro u hu; simp [fldCells] at hu; obtain ⟨a, b, _, h | h⟩ := hu <;> subst h <;> rfl
theorem fldCells_len (l : List (ByteArray × ByteArray)) : (fldCells l).length = l.length * 2 := by
  induction l with
  | nil => rfl
  | cons x l ih => simp only [fldCells, List.flatMap_cons, List.length_append, List.length_cons, List.length_nil] at *; omega
theorem fldCells_at0 : ∀ (l : List (ByteArray × ByteArray)) (k : Nat) (h : k < l.length), (fldCells l)[k * 2]? = some (.string l[k].1)
  | x :: l, 0, _ => rfl
  | x :: l, k + 1, h => by
    have := fldCells_at0 l k (by simpa using h)
    simp only [fldCells, List.flatMap_cons] at *
    rw [show (k + 1) * 2 = k * 2 + 2 by omega]
    simpa using this
theorem fldCells_at1 : ∀ (l : List (ByteArray × ByteArray)) (k : Nat) (h : k < l.length), (fldCells l)[k * 2 + 1]? = some (.string l[k].2)
  | x :: l, 0, _ => rfl
  | x :: l, k + 1, h => by
    have := fldCells_at1 l k (by simpa using h)
    simp only [fldCells, List.flatMap_cons] at *
    rw [show (k + 1) * 2 + 1 = k * 2 + 1 + 2 by omega]
    simpa using this
theorem fldCells_app (l m : List (ByteArray × ByteArray)) : fldCells (l ++ m) = fldCells l ++ fldCells m := by simp [fldCells]

abbrev RdS (w : World) (A : Option Addr) (n : Nat) (ss : List ByteArray) : Prop := Rd w 1 A n (strCells ss)
abbrev RdF (w : World) (A : Option Addr) (n : Nat) (fs : List (ByteArray × ByteArray)) : Prop := Rd w 2 A n (fldCells fs)

theorem Rd.lenS {w : World} {A : Option Addr} {n : Nat} {ss : List ByteArray} (h : RdS w A n ss) : ss.length = n := by have := h.1; simp at this; exact this
theorem Rd.lenF {w : World} {A : Option Addr} {n : Nat} {fs : List (ByteArray × ByteArray)} (h : RdF w A n fs) : fs.length = n := by have := h.1; rw [fldCells_len] at this; omega
theorem Rd.atS {w : World} {A : Option Addr} {n : Nat} {ss : List ByteArray} (h : RdS w A n ss) {k : Nat} (hk : k < ss.length) :
    ∃ b o, A = some ⟨b, o, none⟩ ∧ w.cell? ⟨b, o + k, none⟩ = some (.string ss[k]) := by
  obtain ⟨b, o, e, hc⟩ := h.2 (by simp; omega)
  exact ⟨b, o, e, hc k _ (by simp [List.getElem?_eq_getElem hk])⟩
theorem Rd.atF {w : World} {A : Option Addr} {n : Nat} {fs : List (ByteArray × ByteArray)} (h : RdF w A n fs) {k : Nat} (hk : k < fs.length) :
    ∃ b o, A = some ⟨b, o, none⟩ ∧ w.cell? ⟨b, o + k * 2, none⟩ = some (.string fs[k].1) ∧ w.cell? ⟨b, o + k * 2 + 1, none⟩ = some (.string fs[k].2) := by
  obtain ⟨b, o, e, hc⟩ := h.2 (by rw [fldCells_len]; omega)
  exact ⟨b, o, e, hc _ _ (fldCells_at0 _ _ hk), hc _ _ (fldCells_at1 _ _ hk)⟩
end Go.Proofs.YtaebbnadmfbdjaaDoor
