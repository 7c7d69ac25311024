
/- The walks of quaysideref02.Strip, quaysidelaw02.Ref; FieldStrips returns true. -/
import Derived.Test.YteibmmhdlikckaaDoorStrip
set_option linter.unusedSimpArgs false
set_option linter.unusedVariables false
namespace Go.Proofs.YteibmmhdlikckaaDoor
open Go.RowKit

/-- wpList_appAt with a source that may be empty. -/
theorem wpList_appAtR {P : Program} (w : World) {ops : Array Oper} {rest : List Oper} {o : Oper} {a : Act} {Q : Exit → Act → World → Prop} (hgd : o.guard = none) (s x : Operand) (t : TypeId)
    (ho : o.op = .call { callee := .builtin .append, args := #[s, x], argTypes := #[t, t] })
    (w0 : World) (e : TypeId) (z : Value) (size bytes : Nat) (ht : P.underlying t = some (.slice e))
    (hinfo : (P.info? e).map (fun i => (i.zero, i.size, i.bytes)) = some (some z, size, bytes)) (hzs : z.cells.size = size) (hsz : 0 < size)
    (v : Value) (n : Nat) (xs : List Value) (hs : a.eval s = v) (hown : w.ownsRow w0.heap.size e size v n xs)
    (A : Option Addr) (m c : Nat) (news : List Value) (hx : a.eval x = .slice A m c) (hr : Rd w size A m news) (h1 : ∀ u ∈ news, u.oneCell' = true)
    (hb : Ext w0 w) (hbytes : (n + m) * bytes ≤ 140737488355328) (hby0 : 0 < bytes)
    (h : ∀ A' c' w', w'.ownsRow w0.heap.size e size (.slice A' (n + m) c') (n + m) (xs ++ news) → Ext w0 w' → n + m ≤ c' → w.grownBy w' v.ownBlock → ((Value.slice A' (n + m) c').ownBlock = v.ownBlock ∨ (Value.slice A' (n + m) c').ownBlock = some w.heap.size) → wpList P ops Q rest (a.put o.dst (.slice A' (n + m) c')) w') : wpList P ops Q (o :: rest) a w := by
  rcases A with _ | ad
  · have hn0 : news = [] := by
      rcases Nat.eq_zero_or_pos news.length with h0 | h0
      · exact List.eq_nil_of_length_eq_zero h0
      · obtain ⟨b, o, e, _⟩ := hr.2 h0; cases e
    subst hn0
    have hm : m = 0 := by
      rcases Nat.eq_zero_or_pos m with h | h
      · exact h
      · have h1 := hr.1
        have h2 := Nat.mul_pos h hsz
        rw [List.length_nil] at h1
        omega
    subst hm
    obtain ⟨A0, c0, rfl, hle⟩ := own_shape hown
    obtain ⟨i, hi, hz, hsize, hby⟩ := info_parts hinfo
    have hrun : (Builtin.append_ #[t, t] o.type #[.slice A0 n c0, .slice none 0 c]).run P w = .ok (.slice A0 n c0) w := by
      rcases hown.2 with ⟨hv, h0⟩ | ⟨g, cap, cur, hv, _, _, hnc, _⟩
      · injection hv with e1 e2 e3
        subst e1; subst e2; subst e3
        simp [Builtin.append_, run_underlying ht, sizeOf, typeInfo, hi, Builtin.lenOf, Builtin.firstCells]
      · injection hv with e1 e2 e3
        subst e1; subst e3
        simp [Builtin.append_, run_underlying ht, sizeOf, typeInfo, hi, Builtin.lenOf, Builtin.firstCells, hnc, storeCells]
    refine wpList_plain hgd fun K hK => ?_
    unfold Oper.wp execOp
    simp only [ho, resolve, invoke, builtin, Sem.run_bind, Sem.run_pure, Result.andThen_ok, List.map_toArray, List.map_cons, List.map_nil, hs, hx, hrun]
    exact hK _ _ (h A0 c0 w (by simpa using hown) hb hle (World.grownBy.refl w _) (Or.inl rfl))
  · refine wpList_appAt w hgd s x t ho w0 e z size bytes ht hinfo hzs hsz v n xs hs hown ad m c news hx hr.1 (fun j u hu => ?_) h1 hb hbytes hby0 h
    obtain ⟨b, o', e', hc⟩ := hr.2 (Nat.lt_of_le_of_lt (Nat.zero_le _) (List.getElem?_eq_some_iff.1 hu).1)
    injection e' with e'
    subst e'
    rw [add_plain]; exact hc j u hu

theorem hop_size : ∀ x ∈ hop, x.size ≤ 6000 := by decide +kernel
theorem namesR_size {V : List ByteArray} (h : ∀ v ∈ V, v.size ≤ 6000) : ∀ x ∈ namesR V, x.size ≤ 6000 := by
  intro x hx
  unfold namesR at hx
  rcases List.mem_append.1 hx with hx | hx
  · exact hop_size x hx
  · obtain ⟨v, hv, hxv⟩ := List.mem_flatMap.1 hx
    exact Nat.le_trans ((items_all (s := v)).1 x hxv) (h v hv)
theorem remAll_len (fs : List Fd) (ns : List ByteArray) : (remAll fs ns).length ≤ fs.length := List.length_filter_le _ _
theorem remAll_bsz {B : Nat} {fs : List Fd} {ns : List ByteArray} (h : Bsz B fs) : Bsz B (remAll fs ns) := fun f hf => h f (List.mem_filter.1 hf).1
theorem remAll_step {fs : List Fd} {ns : List ByteArray} {k : Nat} (h : k < ns.length) : remAll fs (ns.take (k + 1)) = remS (remAll fs (ns.take k)) ns[k] := by
  rw [take_step ns k h, remAll_snoc]
theorem cells_app (X Y : List ByteArray) : strCells (X ++ Y) = strCells X ++ strCells Y := List.map_append

set_option maxHeartbeats 1000000 in
theorem ref_AllO (A : Option Addr) (n c : Nat) (fs : List Fd) (name : ByteArray) (w : World) (hf : RdF w A n fs)
    (hn : n ≤ 1073741824) (hs : name.size ≤ 4611686018427387904) (hsz : ∀ f ∈ fs, f.1.size ≤ 4611686018427387904) :
    Calls Tryd.prog 35 #[.slice A n c, .string name] w fun e w' => ∃ A' n' c', e = .returned (.slice A' n' c') ∧ RdS w' A' n' (allS fs name) ∧ n' ≤ c' ∧ Ext w w' ∧ w'.ownsRow w.heap.size 9 1 (.slice A' n' c') n' (strCells (allS fs name)) := by
  go_enter Tryd.func35, Tryd.ntmps35
  go_wp2_with fail
  go_loopw [5, 9] (fun v i wr => ∃ k m A' c', k ≤ n ∧ i = .int .i64 (k : Nat) ∧ v = .slice A' m c' ∧ wr.ownsRow w.heap.size 9 1 (.slice A' m c') m (strCells (allS (fs.take k) name)) ∧ m ≤ c' ∧ Ext w wr) (fun _ i _ => n - (intOf i).toNat)
  case atStart => exact ⟨0, 0, none, 0, Nat.zero_le _, rfl, rfl, World.ownsRow_nil _ _ _ _, Nat.le_refl _, Ext.refl _⟩
  case round =>
    obtain ⟨k, m, A', c', hk, rfl, rfl, hown, hmc, hbr⟩ := hrel
    by_cases hlt : k < n
    · have hl := hf.lenF
      have hlt' : k < fs.length := by omega
      obtain ⟨b, o, rfl, hc0, hc1⟩ := (hf.ext hbr).atF hlt'
      have hbl := World.block_lt_of_cell? _ _ hc1
      have hbd := hsz fs[k] (List.getElem_mem hlt')
      have hm1 := hown.1
      simp only [List.length_map, Nat.mul_one] at hm1
      have hmk := allS_len fs name k
      rw [hm1] at hmk
      have Hl := Lib.hid hl; clear hl
      have Hm := Lib.hid hm1; clear hm1
      have hOf := fun w => ref_Of fs[k].1 fs[k].2 name w hbd hs
      have HOf := Lib.hid hOf; clear hOf
      by_cases hy : isN name fs[k] = true
      · have Hst := Lib.hid (allS_yes hlt' hy)
        have Hy := Lib.hid hy; clear hy
        go_wp2_with fail
        refine (HOf.out _).mono ?_; rintro e w2 ⟨rfl, hb2⟩
        have hc2 := hb2.cells; have hz2 := hb2.size
        have hy : isN name (fs[k].1, fs[k].2) = true := Hy.out
        generalize fs[k].1 = nm at *
        generalize fs[k].2 = vl at *
        go_wp2_with (first
          | (at_builtin; refine wpList_app _ rfl (.tmp 18) (.tmp 24) 53 rfl w 9 _ 1 16 Tryd.underlying53 infoStr rfl (by decide) _ _ _ rfl ((own_ext hown hb2).alloc _) _ 1 1 [.string vl] rfl (Rd.one _ _ _ (by simp)) (strCells_one [vl]) ((hbr.trans hb2).alloc _) (by omega) (by decide) ?_; intro A2 c2 w3 hown3 hb3 hle3))
        go_roundw
        case rel => exact ⟨k + 1, m + 1, A2, c2, by omega, by go_num, rfl, by rw [Hst.out]; simpa using hown3, hle3, hb3⟩
        case measure => simp [intOf]; omega
      · have hy : isN name fs[k] = false := by simpa using hy
        have Hst := Lib.hid (allS_no hlt' hy)
        have Hy := Lib.hid hy; clear hy
        go_wp2_with fail
        refine (HOf.out _).mono ?_; rintro e w2 ⟨rfl, hb2⟩
        have hy : isN name (fs[k].1, fs[k].2) = false := Hy.out
        go_wp2_with fail
        go_roundw
        case rel => exact ⟨k + 1, m, A', c', by omega, by go_num, rfl, by rw [Hst.out]; exact own_ext hown hb2, hmc, hbr.trans hb2⟩
        case measure => simp [intOf]; omega
    · have hk' : k = n := by omega
      have hl := hf.lenF
      go_wp2
      go_ret
      rw [List.take_of_length_le (by omega)] at hown
      exact ⟨_, _, _, rfl, Rd.of_own hown, hmc, hbr, hown⟩

set_option maxHeartbeats 2000000 in
theorem ref_Strip (A : Option Addr) (n c : Nat) (fs : List Fd) (w : World) (hf : RdF w A n fs) (hn : n ≤ 70) (hsz : Bsz 6000 fs) :
    Calls Tryd.prog 19 #[.slice A n c] w fun e w' => ∃ A' n' c', e = .returned (.slice A' n' c') ∧ RdF w' A' n' (stripS fs) ∧ n' ≤ c' ∧ Ext w w' := by
  have hl := hf.lenF
  go_enter Tryd.func19, Tryd.ntmps19
  have Hl := Lib.hid hl; clear hl
  have hown0 : (w.alloc (.cells (strCells hop).toArray 9)).ownsRow w.heap.size 9 1 (.slice (some ⟨w.heap.size, 0, none⟩) 9 9) 9 (strCells hop) :=
    own_lit w (strCells hop).toArray 9 rfl 1 9 rfl (by simp [maxLen])
  have hb0 : Ext w (w.alloc (.cells (strCells hop).toArray 9)) := (Ext.refl w).alloc _
  have Hown0 := Lib.hid hown0; clear hown0
  have Hb0 := Lib.hid hb0; clear hb0
  go_wp2_with fail
  refine (ref_AllO _ _ _ fs connS (w.alloc (.cells (strCells hop).toArray 9)) (hf.ext Hb0.out) (by omega) (by decide) (fun f hff => by have := (hsz f hff).1; omega)).mono ?_; rintro e w1 ⟨A1, n1, c1, rfl, hr1, hc1, hb1, hown1⟩
  have hsep1 := Sep.of_own Hown0.out hown1
  have hnam1 := own_ext Hown0.out hb1
  have hbe1 := Hb0.out.trans hb1
  clear Hown0 Hb0 hown1
  have hva := all_bsz (name := connS) hsz
  have hvl := allS_len fs connS n
  rw [List.take_of_length_le (by have := Hl.out; omega)] at hvl
  have Hrs := Lib.hid (remAll_strip fs)
  generalize allS fs connS = V at *
  have hl1 := hr1.lenS
  have Hl1 := Lib.hid hl1; clear hl1
  have hn1 : n1 ≤ 70 := by have := Hl1.out; omega
  clear hvl
  go_wp2_with fail
  go_loopw [3, 15] (fun v i wr => ∃ k m A' c', k ≤ n1 ∧ i = .int .i64 (k : Nat) ∧ v = .slice A' m c' ∧ wr.ownsRow w.heap.size 9 1 (.slice A' m c') m (strCells (namesR (V.take k))) ∧ m ≤ c' ∧ m ≤ 9 + k * 6001 ∧ Ext w wr ∧ RdS wr A1 n1 V ∧ Sep A1 n1 (.slice A' m c')) (fun _ i _ => n1 - (intOf i).toNat)
  case atStart => exact ⟨0, 9, _, 9, Nat.zero_le _, rfl, rfl, by rw [namesR_zero]; exact hnam1, Nat.le_refl _, by omega, hbe1, hr1, hsep1⟩
  case round =>
    obtain ⟨k, m, A', c', hk, rfl, rfl, hown, hmc, hmk, hbr, hrV, hsV⟩ := hrel
    by_cases hlt : k < n1
    · have hlt' : k < V.length := by have := Hl1.out; omega
      obtain ⟨b, o, rfl, hc0⟩ := hrV.atS hlt'
      have hvs := hva V[k] (List.getElem_mem hlt')
      have Hst := Lib.hid (namesR_step hlt')
      generalize V[k] = x at *
      go_wp2_with fail
      refine (ref_List x _ (by omega)).mono ?_; rintro e w2 ⟨A2, n2, c2, rfl, hr2, hc2, hb2⟩
      have hia := items_all (s := x)
      have hnam2 := own_ext hown hb2
      have hbe2 := hbr.trans hb2
      have hrV2 := Rd.ext hrV hb2
      cases hp : partsS x 44
      · have Hno := Lib.hid (items_none hp); clear hp
        have hmk1 : m ≤ 9 + (k + 1) * 6001 := Nat.le_trans hmk (Nat.add_le_add_left (Nat.mul_le_mul_right 6001 (Nat.le_succ k)) 9)
        rw [show (none : Option (List ByteArray)).isSome = false from rfl]
        go_wp2_with fail
        go_roundw
        case rel => exact ⟨k + 1, m, A', c', by omega, by go_num, rfl, by rw [Hst.out, Hno.out, List.append_nil]; exact hnam2, hmc, hmk1, hbe2, hrV2, hsV⟩
        case measure => simp [intOf]; omega
      · rename_i PP
        rw [show (some PP).isSome = true from rfl]
        clear hp PP
        generalize itemsS x = I at *
        have hl2 := hr2.lenS
        have Hl2 := Lib.hid hl2; clear hl2
        have hn2 : n2 ≤ 6001 := by have := Hl2.out; omega
        have hone := strCells_one I
        go_wp2_with (first
          | (at_builtin; refine wpList_appAtR _ rfl (.tmp 27) (.tmp 28) 53 rfl w 9 _ 1 16 Tryd.underlying53 infoStr rfl (by decide) _ _ _ rfl hnam2 A2 n2 c2 (strCells I) rfl hr2 hone hbe2 (by omega) (by decide) ?_; intro A4 c4 w4 hown4 hb4 hle4 hg4 ho4))
        go_roundw
        case rel => exact ⟨k + 1, m + n2, A4, c4, by omega, by go_num, by go_num, by rw [Hst.out, cells_app]; exact hown4, hle4, by omega, hb4, Rd.sep hrV2 hg4 hsV, Sep.next hrV2 hsV ho4⟩
        case measure => simp [intOf]; omega
    · obtain rfl : k = n1 := by omega
      have he : V.take k = V := List.take_of_length_le (by have := Hl1.out; omega)
      rw [he] at hown
      clear he
      have hns := namesR_size hva
      generalize namesR V = NR at *
      have hm8 : m ≤ 420079 := by omega
      clear hmk
      rename World => W3
      have hrN := Rd.of_own hown
      have hlN := hrN.lenS
      have HlN := Lib.hid hlN; clear hlN
      have hfW := hf.ext hbr
      have howE : (W3.alloc (.cells #[] 51)).ownsRow W3.heap.size 51 2 (.slice (some ⟨W3.heap.size, 0, none⟩) 0 0) 0 [] := World.ownsRow_made W3 #[] 0 (Nat.le_refl _) (by simp [maxLen]) rfl
      have hone := fldCells_one fs
      go_wp2_with (first
        | (at_builtin; refine wpList_app _ rfl (.tmp 31) (.tmp 32) 31 rfl W3 51 _ 2 32 Tryd.underlying31 infoRfd rfl (by decide) _ _ _ rfl howE _ n c (fldCells fs) rfl (hfW.alloc _) hone ((Ext.refl W3).alloc _) (by omega) (by decide) ?_; intro A5 c5 w5 hown5 hb5 hle5))
      have hr5 := Rd.of_own hown5
      rw [Nat.zero_add, List.nil_append] at hr5
      rw [Nat.zero_add] at hle5
      go_wp2_with fail
      go_loopw [8, 36] (fun v i wf => ∃ j m2 B' d', j ≤ m ∧ i = .int .i64 (j : Nat) ∧ v = .slice B' m2 d' ∧ RdF wf B' m2 (remAll fs (NR.take j)) ∧ m2 ≤ d' ∧ Ext W3 wf) (fun _ i _ => m - (intOf i).toNat)
      case atStart => exact ⟨0, n, A5, c5, Nat.zero_le _, rfl, by go_num, by rw [List.take_zero, remAll_nil]; exact hr5, hle5, hb5⟩
      case round =>
        obtain ⟨j, m2, B', d', hj, rfl, rfl, hrf, hmd, hbf⟩ := hrel
        by_cases hjt : j < m
        · have hjt' : j < NR.length := by have := HlN.out; omega
          obtain ⟨b2, o2, rfl, hd0⟩ := (hrN.ext hbf).atS hjt'
          have hys := hns NR[j] (List.getElem_mem hjt')
          have Hst := Lib.hid (remAll_step (fs := fs) hjt')
          have hrl := remAll_len fs (NR.take j)
          have hrl2 := hrf.lenF
          have hm2 : m2 ≤ 70 := by have := Hl.out; omega
          have hrb := (remAll_bsz (ns := NR.take j) hsz).mono (show 6000 ≤ 4611686018427387904 by omega)
          clear hrl hrl2
          generalize remAll fs (NR.take j) = R at *
          generalize NR[j] = y at *
          go_wp2_with fail
          refine (ref_Remove _ _ _ R y _ hrf (by omega) (by omega) hrb).mono ?_; rintro e w6 ⟨B6, m6, d6, rfl, hr6, hle6, hb6, -⟩
          go_wp2_with fail
          go_roundw
          case rel => exact ⟨j + 1, m6, B6, d6, by omega, by go_num, rfl, by rw [Hst.out]; exact hr6, hle6, hbf.trans hb6⟩
          case measure => simp [intOf]; omega
        · obtain rfl : j = m := by omega
          have he : NR.take j = NR := List.take_of_length_le (by have := HlN.out; omega)
          rw [he, Hrs.out] at hrf
          clear he
          go_wp2_with fail
          go_ret
          exact ⟨_, _, _, rfl, hrf, hmd, hbr.trans hbf⟩

set_option maxHeartbeats 1000000 in
theorem law_Ref (A : Option Addr) (n c : Nat) (fs : List Fd) (w : World) (hf : RdF w A n fs) (hn : n ≤ 1073741824) :
    Calls Tryd.prog 20 #[.slice A n c] w fun e w' => ∃ A' c', e = .returned (.slice A' n c') ∧ RdF w' A' n fs ∧ n ≤ c' ∧ Ext w w' ∧ w'.ownsRow w.heap.size 51 2 (.slice A' n c') n (fldCells fs) := by
  have hl := hf.lenF
  go_enter Tryd.func20, Tryd.ntmps20
  have Hl := Lib.hid hl; clear hl
  go_wp2_with fail
  go_loopw [3, 8] (fun v i wr => ∃ k A' c', k ≤ n ∧ i = .int .i64 (k : Nat) ∧ v = .slice A' k c' ∧ wr.ownsRow w.heap.size 51 2 (.slice A' k c') k (fldCells (fs.take k)) ∧ k ≤ c' ∧ Ext w wr) (fun _ i _ => n - (intOf i).toNat)
  case atStart => exact ⟨0, none, 0, Nat.zero_le _, rfl, rfl, World.ownsRow_nil _ _ _ _, Nat.le_refl _, Ext.refl _⟩
  case round =>
    obtain ⟨k, A', c', hk, rfl, rfl, hown, hmc, hbr⟩ := hrel
    by_cases hlt : k < n
    · have hlt' : k < fs.length := by have := Hl.out; omega
      obtain ⟨b, o, rfl, hc0, hc1⟩ := (hf.ext hbr).atF hlt'
      have Hst := Lib.hid (take_step fs k hlt')
      generalize hx : fs[k] = x at *
      obtain ⟨nm, vl⟩ := x
      clear hx
      go_wp2_with (first
          | (at_builtin; refine wpList_app _ rfl (.tmp 12) (.tmp 18) 31 rfl w 51 _ 2 32 Tryd.underlying31 infoRfd rfl (by decide) _ _ _ rfl ((hown.alloc _).alloc _) _ 1 1 (fldCells [(nm, vl)]) rfl (Rd.two _ _ _ _ (by simp)) (fldCells_one _) ((hbr.alloc _).alloc _) (by omega) (by decide) ?_; intro A2 c2 w3 hown3 hb3 hle3))
      go_roundw
      case rel => exact ⟨k + 1, A2, c2, by omega, by go_num, rfl, by rw [Hst.out, fldCells_app]; exact hown3, hle3, hb3⟩
      case measure => simp [intOf]; omega
    · obtain rfl : k = n := by omega
      have he : fs.take k = fs := List.take_of_length_le (by have := Hl.out; omega)
      rw [he] at hown
      go_wp2
      go_ret
      exact ⟨_, _, rfl, Rd.of_own hown, hmc, hbr, hown⟩


end Go.Proofs.YteibmmhdlikckaaDoor
