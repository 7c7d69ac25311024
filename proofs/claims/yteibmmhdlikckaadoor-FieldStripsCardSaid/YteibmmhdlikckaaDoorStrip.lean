
/- The walks of field.Strip, quaysideref02.Strip, quaysidelaw02.Ref; FieldStrips returns true. -/
import Derived.Test.YteibmmhdlikckaaDoorList
import Derived.Test.YteibmmhdlikckaaDoorRem
import Derived.Test.YteibmmhdlikckaaDoorPlain2
import Derived.Maps.AppendAt
set_option linter.unusedSimpArgs false
set_option linter.unusedVariables false
namespace Go.Proofs.YteibmmhdlikckaaDoor
open Go.RowKit

def connS : ByteArray := ⟨#[99, 111, 110, 110, 101, 99, 116, 105, 111, 110]⟩
/-- The names that concern one connection alone. -/
def hop : List ByteArray := [⟨#[99, 111, 110, 110, 101, 99, 116, 105, 111, 110]⟩, ⟨#[107, 101, 101, 112, 45, 97, 108, 105, 118, 101]⟩, ⟨#[112, 114, 111, 120, 121, 45, 99, 111, 110, 110, 101, 99, 116, 105, 111, 110]⟩,
  ⟨#[112, 114, 111, 120, 121, 45, 97, 117, 116, 104, 101, 110, 116, 105, 99, 97, 116, 101]⟩, ⟨#[112, 114, 111, 120, 121, 45, 97, 117, 116, 104, 111, 114, 105, 122, 97, 116, 105, 111, 110]⟩, ⟨#[116, 101]⟩, ⟨#[116, 114, 97, 105, 108, 101, 114]⟩,
  ⟨#[116, 114, 97, 110, 115, 102, 101, 114, 45, 101, 110, 99, 111, 100, 105, 110, 103]⟩, ⟨#[117, 112, 103, 114, 97, 100, 101]⟩]
def namesL (vs : List ByteArray) : List ByteArray := hop ++ vs.flatMap fun v => (itemsS v).map lowS
def namesR (vs : List ByteArray) : List ByteArray := hop ++ vs.flatMap itemsS
/-- A list of fields without those that concern one connection alone. -/
def stripS (fs : List Fd) : List Fd := fs.filter fun f => !hasS (namesL (allS fs connS)) (lowS f.1)

theorem lowS_two (s : ByteArray) : lowS (lowS s) = lowS s := by
  apply bytes_ext
  show lowL (lowL s.data.toList) = lowL s.data.toList
  unfold lowL
  rw [List.map_map]
  apply List.map_congr_left
  intro c _
  show lowC (lowC c) = lowC c
  by_cases h : (65 : Int) ≤ c.toNat ∧ (c.toNat : Int) ≤ 90
  · have h1 := lowC_yes c h.1 h.2
    exact lowC_no _ (by omega)
  · rw [lowC_no c h, lowC_no c h]
theorem hop_low : hop.map lowS = hop := by decide +kernel
theorem hop_conn : lowS connS ∈ hop := by
  rw [show lowS connS = connS by decide +kernel]; exact List.mem_cons_self ..
theorem names_low (vs : List ByteArray) : (namesR vs).map lowS = namesL vs := by
  unfold namesR namesL
  rw [List.map_append, hop_low, List.map_flatMap]
theorem has_low {ns : List ByteArray} {f : Fd} : ns.any (fun nm => isN nm f) = hasS (ns.map lowS) (lowS f.1) := by
  unfold hasS
  rw [List.any_map]
  rfl
def remAll (fs : List Fd) (ns : List ByteArray) : List Fd := fs.filter fun f => !ns.any fun nm => isN nm f
theorem remAll_nil (fs : List Fd) : remAll fs [] = fs := by simp [remAll]
theorem remAll_snoc (fs : List Fd) (ns : List ByteArray) (nm : ByteArray) : remAll fs (ns ++ [nm]) = remS (remAll fs ns) nm := by
  unfold remAll remS
  rw [List.filter_filter]
  apply List.filter_congr
  intro f _
  rw [List.any_append]
  simp [Bool.and_comm]
theorem remAll_strip (fs : List Fd) : remAll fs (namesR (allS fs connS)) = stripS fs := by
  unfold remAll stripS
  apply List.filter_congr
  intro f _
  rw [has_low, names_low]
theorem hasS_app {a b : List ByteArray} {x : ByteArray} : hasS (a ++ b) x = (hasS a x || hasS b x) := by unfold hasS; rw [List.any_append]
theorem strip_all (fs : List Fd) : allS (stripS fs) connS = [] := by
  unfold allS stripS
  rw [List.filter_filter, List.map_eq_nil_iff, List.filter_eq_nil_iff]
  intro f _ h
  simp only [Bool.and_eq_true, Bool.not_eq_true'] at h
  obtain ⟨h1, h2⟩ := h
  have h3 : lowS f.1 = lowS connS := isN_iff.1 h1
  have h4 : hasS (namesL (allS fs connS)) (lowS f.1) = true := hasS_iff.2 (by
    rw [h3]; unfold namesL; exact List.mem_append_left _ hop_conn)
  rw [h4] at h2; cases h2
theorem strip_two (fs : List Fd) : stripS (stripS fs) = stripS fs := by
  have h : stripS (stripS fs) = (stripS fs).filter fun f => !hasS (namesL (allS (stripS fs) connS)) (lowS f.1) := rfl
  rw [h, strip_all]
  apply List.filter_eq_self.2
  intro f hf
  have h2 := (List.mem_filter.1 hf).2
  unfold namesL at *
  rw [hasS_app] at h2
  rw [hasS_app]
  simp only [List.flatMap_nil, Bool.not_or, Bool.and_eq_true] at *
  exact ⟨h2.1, by simp [hasS]⟩
theorem strip_len (fs : List Fd) : (stripS fs).length ≤ fs.length := List.length_filter_le _ _
theorem strip_bsz {B : Nat} {fs : List Fd} (h : Bsz B fs) : Bsz B (stripS fs) := fun f hf => h f (List.mem_filter.1 hf).1
theorem items_none {s : ByteArray} (h : partsS s 44 = none) : itemsS s = [] := by unfold itemsS; rw [h]; rfl
theorem all_bsz {B : Nat} {fs : List Fd} {name : ByteArray} (h : Bsz B fs) : ∀ v ∈ allS fs name, v.size ≤ B := by
  intro v hv
  obtain ⟨f, hf, rfl⟩ := List.mem_map.1 hv
  exact (h f (List.mem_filter.1 hf).1).2
theorem own_lit (w : World) (cs : Array Value) (e : TypeId) {b : Nat} (hb : b = w.heap.size) (k n : Nat) (h : cs.size = n * k) (hn : n ≤ maxLen) :
    (w.alloc (.cells cs e)).ownsRow w.heap.size e k (.slice (some ⟨b, 0, none⟩) n n) n cs.toList := by
  subst hb
  exact ⟨by simpa using h, .inr ⟨w.heap.size, n, cs, rfl, Nat.le_refl _, heap_alloc_new w _, Nat.le_refl _, hn, h, List.take_of_length_le (by rw [Array.length_toList, h]; exact Nat.le_refl _)⟩⟩
theorem fmap_step {α β : Type} (g : α → List β) (l : List α) (k : Nat) (h : k < l.length) : (l.take (k + 1)).flatMap g = (l.take k).flatMap g ++ g l[k] := by
  rw [take_step l k h, List.flatMap_append, List.flatMap_singleton]
theorem map_step {α β : Type} (g : α → β) (l : List α) (k : Nat) (h : k < l.length) : (l.take (k + 1)).map g = (l.take k).map g ++ [g l[k]] := by
  rw [take_step l k h, List.map_append]; rfl

theorem namesL_step {V : List ByteArray} {k : Nat} (h : k < V.length) : namesL (V.take (k + 1)) = namesL (V.take k) ++ (itemsS V[k]).map lowS := by
  unfold namesL
  rw [fmap_step _ V k h, List.append_assoc]
theorem namesR_step {V : List ByteArray} {k : Nat} (h : k < V.length) : namesR (V.take (k + 1)) = namesR (V.take k) ++ itemsS V[k] := by
  unfold namesR
  rw [fmap_step _ V k h, List.append_assoc]
theorem namesL_zero (V : List ByteArray) : namesL (V.take 0) = hop := by
  unfold namesL; rw [List.take_zero, List.flatMap_nil, List.append_nil]
theorem namesR_zero (V : List ByteArray) : namesR (V.take 0) = hop := by
  unfold namesR; rw [List.take_zero, List.flatMap_nil, List.append_nil]
theorem cells_snoc (X : List ByteArray) (x : ByteArray) : strCells (X ++ [x]) = strCells X ++ [.string x] := List.map_append
theorem notB {b : Bool} (h : b = true) : (!b) = false := by rw [h]; rfl
theorem notB' {b : Bool} (h : b = false) : (!b) = true := by rw [h]; rfl

/-- An own row lies apart from a slice of n that is read. -/
def Sep (A : Option Addr) (n : Nat) (v : Value) : Prop := 0 < n → ∀ b o, A = some ⟨b, o, none⟩ → v.ownBlock ≠ some b
theorem Sep.of_own {w w' : World} {base e k m e' k' n c : Nat} {v : Value} {xs ys : List Value} {A : Option Addr} (hv : w.ownsRow base e k v m xs) (hi : w'.ownsRow w.heap.size e' k' (.slice A n c) n ys) : Sep A n v := by
  intro hn b o hA he
  have hlt := (hv.lt b he).2
  rcases hi.2 with ⟨hh, h0⟩ | ⟨g, cap, cur, hh, hb, _⟩
  · omega
  · injection hh with h1
    rw [hA] at h1
    injection h1 with h1
    injection h1 with h1
    omega
theorem Rd.sep {w w' : World} {n : Nat} {A : Option Addr} {ss : List ByteArray} {v : Value} (h : RdS w A n ss) (hg : w.grownBy w' v.ownBlock) (hs : Sep A n v) : RdS w' A n ss := by
  refine ⟨h.1, fun hp => ?_⟩
  obtain ⟨b, o, e, hc⟩ := h.2 hp
  have hn : 0 < n := by have := h.1; omega
  refine ⟨b, o, e, fun j u hu => ?_⟩
  have h1 := hc j u hu
  have hb : b < w.heap.size := World.block_lt_of_cell? w _ h1
  exact (World.cell?_of_block (hg.block b hb (fun hh => hs hn b o e hh.symm))).trans h1
theorem Sep.next {w : World} {n : Nat} {A : Option Addr} {ss : List ByteArray} {v v' : Value} (h : RdS w A n ss) (hs : Sep A n v) (hv : v'.ownBlock = v.ownBlock ∨ v'.ownBlock = some w.heap.size) : Sep A n v' := by
  intro hn b o e
  rcases hv with hv | hv
  · rw [hv]; exact hs hn b o e
  · obtain ⟨b', o', e', hc⟩ := h.2 (by have := h.1; omega)
    rw [e] at e'
    injection e' with e'
    injection e' with e1 e2
    have hl := h.1
    have hb : b' < w.heap.size := World.block_lt_of_cell? w _ (hc 0 _ (List.getElem?_eq_getElem (by omega)))
    rw [hv]
    intro hh
    injection hh with hh
    omega

/-- Append onto an own row, with where the new row lies. -/
theorem wpList_appAt {P : Program} (w : World) {ops : Array Oper} {rest : List Oper} {o : Oper} {a : Act} {Q : Exit → Act → World → Prop} (hgd : o.guard = none) (s x : Operand) (t : TypeId)
    (ho : o.op = .call { callee := .builtin .append, args := #[s, x], argTypes := #[t, t] })
    (w0 : World) (e : TypeId) (z : Value) (size bytes : Nat) (ht : P.underlying t = some (.slice e))
    (hinfo : (P.info? e).map (fun i => (i.zero, i.size, i.bytes)) = some (some z, size, bytes)) (hzs : z.cells.size = size) (hsz : 0 < size)
    (v : Value) (n : Nat) (xs : List Value) (hs : a.eval s = v) (hown : w.ownsRow w0.heap.size e size v n xs)
    (ad : Addr) (m c : Nat) (news : List Value) (hx : a.eval x = .slice (some ad) m c) (hl : news.length = m * size) (hnews : ∀ j u, news[j]? = some u → w.cell? (ad.add j) = some u) (h1 : ∀ u ∈ news, u.oneCell' = true)
    (hb : Ext w0 w) (hbytes : (n + m) * bytes ≤ 140737488355328) (hby0 : 0 < bytes)
    (h : ∀ A' c' w', w'.ownsRow w0.heap.size e size (.slice A' (n + m) c') (n + m) (xs ++ news) → Ext w0 w' → n + m ≤ c' → w.grownBy w' v.ownBlock → ((Value.slice A' (n + m) c').ownBlock = v.ownBlock ∨ (Value.slice A' (n + m) c').ownBlock = some w.heap.size) → wpList P ops Q rest (a.put o.dst (.slice A' (n + m) c')) w') : wpList P ops Q (o :: rest) a w := by
  have h63 : n + m ≤ maxLen := by
    have : (n + m) * 1 ≤ (n + m) * bytes := Nat.mul_le_mul_left _ hby0
    simp only [maxLen]; omega
  obtain ⟨i, hi, hz, hsize, hby⟩ := info_parts hinfo
  refine wpList_append_own_at w hgd s x t ho w0.heap.size e i z size bytes ht hi hz hsize hby hzs hsz v n xs hs hown ad m c news hx hl hnews h1 h63 hbytes hb.size ?_
  intro v' w' h2 h3 _ h5
  obtain ⟨A', c', rfl, hle⟩ := own_shape h2
  exact h A' c' w' h2 (hb.grown h3 (fun k hk => (hown.lt k hk).1)) hle h3 h5

set_option maxHeartbeats 1000000 in
theorem field_AllO (A : Option Addr) (n c : Nat) (fs : List Fd) (name : ByteArray) (w : World) (hf : RdF w A n fs)
    (hn : n ≤ 1073741824) (hs : name.size ≤ 9223372036854775807) (hsz : ∀ f ∈ fs, f.1.size ≤ 9223372036854775807) :
    Calls Tryd.prog 31 #[.slice A n c, .string name] w fun e w' => ∃ A' n' c', e = .returned (.slice A' n' c') ∧ RdS w' A' n' (allS fs name) ∧ n' ≤ c' ∧ Ext w w' ∧ w'.ownsRow w.heap.size 9 1 (.slice A' n' c') n' (strCells (allS fs name)) := by
  go_enter Tryd.func31, Tryd.ntmps31
  go_wp2_with (go_at_call 23; refine (field_lower _ _ (by assumption)).mono ?_; rintro e w1 ⟨rfl, hb1⟩)
  go_loopw [5, 12] (fun v i wr => ∃ k m A' c', k ≤ n ∧ i = .int .i64 (k : Nat) ∧ v = .slice A' m c' ∧ wr.ownsRow w1.heap.size 9 1 (.slice A' m c') m (strCells (allS (fs.take k) name)) ∧ m ≤ c' ∧ Ext w1 wr) (fun _ i _ => n - (intOf i).toNat)
  case atStart => exact ⟨0, 0, none, 0, Nat.zero_le _, rfl, rfl, World.ownsRow_nil _ _ _ _, Nat.le_refl _, Ext.refl _⟩
  case round =>
    obtain ⟨k, m, A', c', hk, rfl, rfl, hown, hmc, hbr⟩ := hrel
    by_cases hlt : k < n
    · have hl := hf.lenF
      have hlt' : k < fs.length := by omega
      obtain ⟨b, o, rfl, hc0, hc1⟩ := (hf.ext (hb1.trans hbr)).atF hlt'
      have hbd := hsz fs[k] (List.getElem_mem hlt')
      have hm1 := hown.1
      simp only [List.length_map, Nat.mul_one] at hm1
      have hmk := allS_len fs name k
      rw [hm1] at hmk
      have Hl := Lib.hid hl; clear hl
      have Hm := Lib.hid hm1; clear hm1
      by_cases hy : isN name fs[k] = true
      · have Hst := Lib.hid (allS_yes hlt' hy)
        unfold isN at hy
        generalize fs[k].1 = nm at *
        generalize fs[k].2 = vl at *
        go_wp2_with (first
          | (go_at_call 23; refine (field_lower _ _ (by assumption)).mono ?_; rintro e w2 ⟨rfl, hb2⟩; have hc2 := hb2.cells; have hz2 := hb2.size)
          | (at_builtin; refine wpList_app _ rfl (.tmp 21) (.tmp 24) 53 rfl w1 9 _ 1 16 Tryd.underlying53 infoStr rfl (by decide) _ _ _ rfl ((own_ext (hown.alloc _) hb2).alloc _) _ 1 1 [.string vl] rfl (Rd.one _ _ _ (by simp)) (strCells_one [vl]) (((hbr.alloc _).trans hb2).alloc _) (by omega) (by decide) ?_; intro A2 c2 w3 hown3 hb3 hle3))
        go_roundw
        case rel => exact ⟨k + 1, m + 1, A2, c2, by omega, by go_num, rfl, by rw [Hst.out]; simpa using hown3, hle3, hb3⟩
        case measure => simp [intOf]; omega
      · have hy : isN name fs[k] = false := by simpa using hy
        have Hst := Lib.hid (allS_no hlt' hy)
        unfold isN at hy
        generalize fs[k].1 = nm at *
        generalize fs[k].2 = vl at *
        go_wp2_with (first
          | (go_at_call 23; refine (field_lower _ _ (by assumption)).mono ?_; rintro e w2 ⟨rfl, hb2⟩; have hc2 := hb2.cells; have hz2 := hb2.size))
        go_roundw
        case rel => exact ⟨k + 1, m, A', c', by omega, by go_num, rfl, by rw [Hst.out]; exact own_ext (hown.alloc _) hb2, hmc, (hbr.alloc _).trans hb2⟩
        case measure => simp [intOf]; omega
    · have hk' : k = n := by omega
      have hl := hf.lenF
      go_wp2
      go_ret
      rw [List.take_of_length_le (by omega)] at hown
      exact ⟨_, _, _, rfl, Rd.of_own hown, hmc, hb1.trans hbr, own_base hown hb1.size⟩

set_option maxHeartbeats 2000000 in
theorem field_Strip (A : Option Addr) (n c : Nat) (fs : List Fd) (w : World) (hf : RdF w A n fs) (hn : n ≤ 70) (hsz : Bsz 6000 fs) :
    Calls Tryd.prog 16 #[.slice A n c] w fun e w' => ∃ A' n' c', e = .returned (.slice A' n' c') ∧ RdF w' A' n' (stripS fs) ∧ n' ≤ c' ∧ Ext w w' := by
  have hl := hf.lenF
  go_enter Tryd.func16, Tryd.ntmps16
  have Hl := Lib.hid hl; clear hl
  have hown0 : (w.alloc (.cells (strCells hop).toArray 9)).ownsRow w.heap.size 9 1 (.slice (some ⟨w.heap.size, 0, none⟩) 9 9) 9 (strCells hop) :=
    own_lit w (strCells hop).toArray 9 rfl 1 9 rfl (by simp [maxLen])
  have hb0 : Ext w (w.alloc (.cells (strCells hop).toArray 9)) := (Ext.refl w).alloc _
  have Hown0 := Lib.hid hown0; clear hown0
  have Hb0 := Lib.hid hb0; clear hb0
  go_wp2_with fail
  refine (field_AllO _ _ _ fs connS (w.alloc (.cells (strCells hop).toArray 9)) (hf.ext Hb0.out) (by omega) (by decide) (fun f hff => by have := (hsz f hff).1; omega)).mono ?_; rintro e w1 ⟨A1, n1, c1, rfl, hr1, hc1, hb1, hown1⟩
  have hsep1 := Sep.of_own Hown0.out hown1
  have hnam1 := own_ext Hown0.out hb1
  have hbe1 := Hb0.out.trans hb1
  clear Hown0 Hb0 hown1
  have hva := all_bsz (name := connS) hsz
  have hvl := allS_len fs connS n
  rw [List.take_of_length_le (by have := Hl.out; omega)] at hvl
  generalize hV : allS fs connS = V at *
  have HV := Lib.hid hV; clear hV
  have hl1 := hr1.lenS
  have Hl1 := Lib.hid hl1; clear hl1
  have hn1 : n1 ≤ 70 := by have := Hl1.out; omega
  have Hsm := Lib.hid (show stripS fs = fs.filter fun f => !hasS (namesL V) (lowS f.1) by unfold stripS; rw [HV.out])
  clear hvl
  go_wp2_with fail
  go_loopw [3, 17] (fun v i wr => ∃ k m A' c', k ≤ n1 ∧ i = .int .i64 (k : Nat) ∧ v = .slice A' m c' ∧ wr.ownsRow w.heap.size 9 1 (.slice A' m c') m (strCells (namesL (V.take k))) ∧ m ≤ c' ∧ m ≤ 9 + k * 6001 ∧ Ext w wr ∧ RdS wr A1 n1 V ∧ Sep A1 n1 (.slice A' m c')) (fun _ i _ => n1 - (intOf i).toNat)
  case atStart => exact ⟨0, 9, _, 9, Nat.zero_le _, rfl, rfl, by rw [namesL_zero]; exact hnam1, Nat.le_refl _, by omega, hbe1, hr1, hsep1⟩
  case round =>
    obtain ⟨k, m, A', c', hk, rfl, rfl, hown, hmc, hmk, hbr, hrV, hsV⟩ := hrel
    by_cases hlt : k < n1
    · have hlt' : k < V.length := by have := Hl1.out; omega
      obtain ⟨b, o, rfl, hc0⟩ := hrV.atS hlt'
      have hvs := hva V[k] (List.getElem_mem hlt')
      have Hst := Lib.hid (namesL_step hlt')
      generalize V[k] = x at *
      go_wp2_with fail
      refine (syntax_List x _ (by omega)).mono ?_; rintro e w2 ⟨A2, n2, c2, rfl, hr2, hc2, hb2, hown2⟩
      have hia := items_all (s := x)
      have hsI := Sep.of_own hown hown2
      have hnam2 := own_ext hown hb2
      have hbe2 := hbr.trans hb2
      have hrV2 := Rd.ext hrV hb2
      clear hown2
      cases hp : partsS x 44
      · have Hno := Lib.hid (items_none hp); clear hp
        have hmk1 : m ≤ 9 + (k + 1) * 6001 := Nat.le_trans hmk (Nat.add_le_add_left (Nat.mul_le_mul_right 6001 (Nat.le_succ k)) 9)
        rw [show pE none = 2 from rfl, show errV 2 = .iface 47 (.int .i64 2) from rfl]
        go_wp2_with fail
        go_roundw
        case rel => exact ⟨k + 1, m, A', c', by omega, by go_num, rfl, by rw [Hst.out, Hno.out, List.map_nil, List.append_nil]; exact hnam2, hmc, hmk1, hbe2, hrV2, hsV⟩
        case measure => simp [intOf]; omega
      · rw [show pE (some _) = 0 from rfl, show errV 0 = .nilIface from rfl]
        clear hp
        generalize itemsS x = I at *
        have hl2 := hr2.lenS
        have Hl2 := Lib.hid hl2; clear hl2
        have hn2 : n2 ≤ 6001 := by have := Hl2.out; omega
        go_wp2_with fail
        go_loopw [3, 30] (fun v i wi => ∃ j m2 B' d', j ≤ n2 ∧ i = .int .i64 (j : Nat) ∧ v = .slice B' m2 d' ∧ wi.ownsRow w.heap.size 9 1 (.slice B' m2 d') m2 (strCells (namesL (V.take k) ++ (I.take j).map lowS)) ∧ m2 ≤ d' ∧ m2 ≤ 9 + k * 6001 + j ∧ Ext w wi ∧ RdS wi (some ⟨b, o, none⟩) n1 V ∧ Sep (some ⟨b, o, none⟩) n1 (.slice B' m2 d') ∧ RdS wi A2 n2 I ∧ Sep A2 n2 (.slice B' m2 d')) (fun _ i _ => n2 - (intOf i).toNat)
        case atStart => exact ⟨0, m, A', c', Nat.zero_le _, rfl, rfl, by rw [List.take_zero, List.map_nil, List.append_nil]; exact hnam2, hmc, by omega, hbe2, hrV2, hsV, hr2, hsI⟩
        case round =>
          obtain ⟨j, m2, B', d', hj, rfl, rfl, howi, hmd, hmj, hbi, hrVi, hsVi, hrI, hsIi⟩ := hrel
          by_cases hjt : j < n2
          · have hjt' : j < I.length := by have := Hl2.out; omega
            obtain ⟨b2, o2, rfl, hd0⟩ := hrI.atS hjt'
            have hys := hia.1 I[j] (List.getElem_mem hjt')
            have Hs2 := Lib.hid (map_step lowS I j hjt')
            generalize I[j] = y at *
            go_wp2_with fail
            refine (field_lower y _ (by omega)).mono ?_; rintro e w3 ⟨rfl, hb3⟩
            generalize lowS y = L at *
            go_wp2_with (first
              | (at_builtin; refine wpList_appAt _ rfl (.tmp 34) (.tmp 37) 53 rfl w 9 _ 1 16 Tryd.underlying53 infoStr rfl (by decide) _ _ _ rfl ((own_ext howi hb3).alloc _) ⟨w3.heap.size, 0, none⟩ 1 1 [.string L] rfl rfl (cell_one_new _ _ _) (strCells_one [L]) ((hbi.trans hb3).alloc _) (by omega) (by decide) ?_; intro A4 c4 w4 hown4 hb4 hle4 hg4 ho4))
            have hrV3 := Rd.alloc (Rd.ext hrVi hb3) (.cells #[.string L] 9)
            have hrI3 := Rd.alloc (Rd.ext hrI hb3) (.cells #[.string L] 9)
            go_roundw
            case rel => exact ⟨j + 1, m2 + 1, A4, c4, by omega, by go_num, rfl, by rw [Hs2.out, ← List.append_assoc, cells_snoc]; exact hown4, hle4, by omega, hb4, Rd.sep hrV3 hg4 hsVi, Sep.next hrV3 hsVi ho4, Rd.sep hrI3 hg4 hsIi, Sep.next hrI3 hsIi ho4⟩
            case measure => simp [intOf]; omega
          · obtain rfl : j = n2 := by omega
            have he : I.take j = I := List.take_of_length_le (by have := Hl2.out; omega)
            rw [he] at howi
            clear he
            go_wp2_with fail
            go_roundw
            case rel => exact ⟨k + 1, m2, B', d', by omega, by go_num, rfl, by rw [Hst.out]; exact howi, hmd, by omega, hbi, hrVi, hsVi⟩
            case measure => simp [intOf]; omega
    · obtain rfl : k = n1 := by omega
      have he : V.take k = V := List.take_of_length_le (by have := Hl1.out; omega)
      rw [he] at hown
      clear he
      go_wp2_with fail
      generalize namesL V = NL at *
      have hm8 : m ≤ 420079 := by omega
      clear hmk
      rename World => W3
      have hrN := Rd.of_own hown
      go_loopw [10, 43] (fun v i wf => ∃ j m2 B' d', j ≤ n ∧ i = .int .i64 (j : Nat) ∧ v = .slice B' m2 d' ∧ wf.ownsRow W3.heap.size 45 2 (.slice B' m2 d') m2 (fldCells ((fs.take j).filter fun f => !hasS NL (lowS f.1))) ∧ m2 ≤ d' ∧ m2 ≤ j ∧ Ext W3 wf) (fun _ i _ => n - (intOf i).toNat)
      case atStart => exact ⟨0, 0, none, 0, Nat.zero_le _, rfl, rfl, World.ownsRow_nil _ _ _ _, Nat.le_refl _, Nat.le_refl _, Ext.refl _⟩
      case round =>
        obtain ⟨j, m2, B', d', hj, rfl, rfl, howf, hmd, hmj, hbf⟩ := hrel
        by_cases hjt : j < n
        · have hjt' : j < fs.length := by have := Hl.out; omega
          have hbef := hbr.trans hbf
          obtain ⟨b2, o2, rfl, hc0, hc1⟩ := (hf.ext hbef).atF hjt'
          have hbd := (hsz.at_ hjt').1
          have Hy := Lib.hid (ft_yes (fun f : Fd => !hasS NL (lowS f.1)) hjt')
          have Hn := Lib.hid (ft_no (fun f : Fd => !hasS NL (lowS f.1)) hjt')
          have hrN2 := hrN.ext hbf
          generalize hx : fs[j] = x at *
          obtain ⟨nm, vl⟩ := x
          clear hx
          dsimp only at hc0 hc1 hbd
          go_wp2_with fail
          refine (field_lower nm _ (by omega)).mono ?_; rintro e w2 ⟨rfl, hb2⟩
          have hA0 : (wr.alloc (.cells #[.string nm, .string vl] 45)).cell? ⟨wr.heap.size, 0, none⟩ = some (.string nm) := by rw [World.cell?_alloc_mark]; rfl
          have hB0 : (wr.alloc (.cells #[.string nm, .string vl] 45)).cell? ⟨wr.heap.size, 1, none⟩ = some (.string vl) := by rw [World.cell?_alloc_mark]; rfl
          have hA2 := hb2.cell hA0; have hB2 := hb2.cell hB0
          go_wp2_with fail
          refine (str_Contains _ _ _ _ _ _ ((hrN2.alloc _).ext hb2) (by omega)).mono ?_; rintro e w3 ⟨rfl, hb3⟩
          have hA3 := hb3.cell hA2; have hB3 := hb3.cell hB2
          have howf3 := own_ext (own_ext (howf.alloc (.cells #[.string nm, .string vl] 45)) hb2) hb3
          have hb23 := ((hbf.alloc (.cells #[.string nm, .string vl] 45)).trans hb2).trans hb3
          cases hh : hasS NL (lowS nm)
          · have Hk := Lib.hid (Hy.out (notB' hh)); clear hh
            go_wp2_with (first
              | (at_builtin; refine wpList_app _ rfl (.tmp 53) (.tmp 55) 35 rfl W3 45 _ 2 32 Tryd.underlying35 infoFld rfl (by decide) _ _ _ rfl (howf3.alloc _) _ 1 1 (fldCells [(nm, vl)]) rfl (Rd.two _ _ _ _ (by simp)) (fldCells_one _) (hb23.alloc _) (by omega) (by decide) ?_; intro A4 c4 w4 hown4 hb4 hle4))
            go_roundw
            case rel => exact ⟨j + 1, m2 + 1, A4, c4, by omega, by go_num, rfl, by rw [Hk.out, fldCells_app]; exact hown4, hle4, by omega, hb4⟩
            case measure => simp [intOf]; omega
          · have Hk := Lib.hid (Hn.out (notB hh)); clear hh
            go_wp2_with fail
            go_roundw
            case rel => exact ⟨j + 1, m2, B', d', by omega, by go_num, rfl, by rw [Hk.out]; exact howf3, hmd, by omega, hb23⟩
            case measure => simp [intOf]; omega
        · obtain rfl : j = n := by omega
          have he : fs.take j = fs := List.take_of_length_le (by have := Hl.out; omega)
          rw [he, ← Hsm.out] at howf
          clear he
          go_wp2_with fail
          go_ret
          exact ⟨_, _, _, rfl, Rd.of_own howf, hmd, hbr.trans hbf⟩
end Go.Proofs.YteibmmhdlikckaaDoor
