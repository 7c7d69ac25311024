/- The walk of Origin.Publish. The walks of Origin.find, brief, kept. The walk of origin.state. The walks of field.All and quaysideref01.List once more: the rows that they return are the calls' own. A slice of strings that is read, with one cell written. The walk of vary.Key. The walk of origin.chosen. The walk of errors.Is at the errors of the package api. -/
import Derived.Test.YtmckbcbdnckngaaGreatDoorJ4
import Derived.LaidEql
import Derived.Stop.Asserts
import Derived.RowKitTokens
set_option linter.unusedSimpArgs false
set_option linter.unusedVariables false
namespace Go.Proofs.YtmckbcbdnckngaaGreatDoor
open Go.RowKit

theorem infoPub : (Tryz.prog.info? 103).map (fun i => (i.zero, i.size, i.bytes)) = some (some (.agg #[.int .i64 0, .string ⟨#[]⟩, .int .i64 0, .slice none 0 0, .slice none 0 0, .slice none 0 0]), 6, 104) := by kernel_rfl
theorem step_appO {P : Program} (w : World) {ops : Array Oper} {o : Oper} {a : Act} {K : Act → World → Prop} {Q : Exit → Act → World → Prop} {E : Prop} (hgd : o.guard = none) (s x : Operand) (t : TypeId)
    (ho : o.op = .call { callee := .builtin .append, args := #[s, x], argTypes := #[t, t] })
    (e : TypeId) (z : Value) (size bytes : Nat) (ht : P.underlying t = some (.slice e))
    (hinfo : (P.info? e).map (fun i => (i.zero, i.size, i.bytes)) = some (some z, size, bytes)) (hzs : z.cells.size = size) (hsz : 0 < size)
    (v : Value) (n : Nat) (xs : List Value) (hs : a.eval s = v) (hown : w.ownsRow 0 e size v n xs)
    (b c m : Nat) (news : List Value) (hx : a.eval x = .slice (some ⟨b, 0, none⟩) m c) (hr : Rd w size (some ⟨b, 0, none⟩) m news) (h1 : ∀ u ∈ news, u.oneCell' = true)
    (hbytes : (n + m) * bytes ≤ 140737488355328) (hby0 : 0 < bytes)
    (h : ∀ A' c' w', w'.ownsRow 0 e size (.slice A' (n + m) c') (n + m) (xs ++ news) → n + m ≤ c' → w.grownBy w' v.ownBlock → ((Value.slice A' (n + m) c').ownBlock = v.ownBlock ∨ (Value.slice A' (n + m) c').ownBlock = some w.heap.size) → K (a.put o.dst (.slice A' (n + m) c')) w') :
    if Region.wanted o (yielded ops a.tmps) = true then Oper.wp P o a w K Q else E := by
  rw [if_pos (by simp [Region.wanted, hgd])]
  have h63 : n + m ≤ maxLen := by
    have : (n + m) * 1 ≤ (n + m) * bytes := Nat.mul_le_mul_left _ hby0
    simp only [maxLen]; omega
  obtain ⟨i, hi, hz, hsize, hby⟩ := info_parts hinfo
  obtain ⟨v', w', hrun, h2, h3, _, h5⟩ := run_append_own_at (P := P) w 0 t o.type e i z size bytes ht hi hz hsize hby hzs hsz v n xs hown ⟨b, 0, none⟩ m c news hr.1 (fun j u hu => by
    obtain ⟨b', o', e', hc⟩ := hr.2 (Nat.lt_of_le_of_lt (Nat.zero_le _) (List.getElem?_eq_some_iff.1 hu).1)
    injection e' with e'
    injection e' with e1 e2
    subst e1; subst e2
    rw [add_plain]; exact hc j u hu) h1 h63 hbytes (Nat.zero_le _)
  obtain ⟨A', c', rfl, hle⟩ := own_shape h2
  unfold Oper.wp execOp
  simp only [ho, resolve, invoke, builtin, Sem.run_bind, Sem.run_pure, Result.andThen_ok, List.map_toArray, List.map_cons, List.map_nil, hs, hx, hrun]
  exact h A' c' w' h2 hle h3 h5
section
variable {o : Org} {t : Int} {v : Ver}
theorem pub_big (h : bigVr v = true) : pubS o t v = (0, 5, o) := by unfold pubS; rw [if_pos (by simp [h])]
theorem pub_full (h : 4096 ≤ o.vs.length) : pubS o t v = (0, 5, o) := by unfold pubS; rw [if_pos (by simp [h])]
theorem pub_form (h1 : bigVr v = false) (h2 : ¬ 4096 ≤ o.vs.length) (h3 : okVr v = false) : pubS o t v = (0, 2, o) := by unfold pubS; rw [if_neg (by simp [h1]; omega), if_pos (by simp [h3])]
theorem pub_ord {p : Int × Ver} (h1 : bigVr v = false) (h2 : ¬ 4096 ≤ o.vs.length) (h3 : okVr v = true) (h4 : o.vs.getLast? = some p) (h5 : cl55 t < p.1) : pubS o t v = (0, 7, o) := by
  unfold pubS; rw [if_neg (by simp [h1]; omega), if_neg (by simp [h3]), h4]; simp only; rw [if_pos h5]
theorem pub_ok (h1 : bigVr v = false) (h2 : ¬ 4096 ≤ o.vs.length) (h3 : okVr v = true) (h4 : ∀ p, o.vs.getLast? = some p → ¬ cl55 t < p.1) : pubS o t v = (((o.vs.length + 1 : Nat) : Int), 0, { o with vs := o.vs ++ [(cl55 t, v)] }) := by
  unfold pubS; rw [if_neg (by simp [h1]; omega), if_neg (by simp [h3])]
  cases h : o.vs.getLast? with
  | none => rfl
  | some p => simp only; rw [if_neg (h4 p h)]; rfl
end
theorem MV.At.sub {Q Q' : Nat → Prop} {w : World} {m : MV} (h : m.At Q w) (hq : ∀ i, Q' i → Q i) : m.At Q' w := h.more (fun i hi => .inl (hq i hi))
theorem pubC_len (l : List (Int × MV)) : (l.flatMap pubC).length = l.length * 6 := by
  induction l with
  | nil => rfl
  | cons x l ih => rw [List.flatMap_cons, List.length_append, ih]; simp [pubC, MV.cells]; omega
/-- A version's cells in the origin's row. -/
theorem OrgP.at_ {w : World} {p : Nat} {R Q : Nat → Prop} {o : Org} {M : OM} (h : OrgP w p R Q o M) {i : Nat} (hi : i < M.mv.length) : ∃ g, M.vs.A = some ⟨g, 0, none⟩ ∧
    w.cell? ⟨g, i * 6, none⟩ = some (.int .i64 M.mv[i].1) ∧ w.cell? ⟨g, i * 6 + 1, none⟩ = some (.string M.mv[i].2.addr) ∧ w.cell? ⟨g, i * 6 + 2, none⟩ = some (.int .i64 M.mv[i].2.status) ∧
    w.cell? ⟨g, i * 6 + 3, none⟩ = some M.mv[i].2.fs.v ∧ w.cell? ⟨g, i * 6 + 4, none⟩ = some M.mv[i].2.bd.v ∧ w.cell? ⟨g, i * 6 + 5, none⟩ = some M.mv[i].2.vr.v := by
  have hv := h.vs
  have hl := hv.1
  rw [pubC_len] at hl
  have hn : M.mv.length = o.vs.length := by omega
  obtain ⟨g, hA⟩ : ∃ g, M.vs.A = some ⟨g, 0, none⟩ := by
    rcases hv.2 with ⟨_, h0⟩ | ⟨g, _, _, e, _⟩
    · omega
    · exact ⟨g, (slice_inj e).1⟩
  have hvn : M.vs.v = .slice (some ⟨g, 0, none⟩) o.vs.length M.vs.c := by
    rcases hv.2 with ⟨_, h0⟩ | ⟨g', _, _, e, _⟩
    · omega
    · rw [e]
      unfold Sl.v at e
      injection e with e1 e2 e3
      rw [hA] at e1; injection e1 with e1; injection e1 with e1; subst e1; subst e3; rfl
  rw [hvn] at hv
  have hc : ∀ j (_ : j < 6), w.cell? ⟨g, i * 6 + j, none⟩ = (pubC M.mv[i])[j]? := fun j hj => by
    rw [hv.cellAt (i * 6 + j) (by omega)]
    exact flat_at pubC 6 (fun _ => rfl) _ _ _ hi hj
  exact ⟨g, hA, hc 0 (by decide), hc 1 (by decide), hc 2 (by decide), hc 3 (by decide), hc 4 (by decide), hc 5 (by decide)⟩
theorem OrgP.vsn {w : World} {p : Nat} {R Q : Nat → Prop} {o : Org} {M : OM} (h : OrgP w p R Q o M) : M.vs.n = o.vs.length ∧ M.mv.length = o.vs.length := by
  have hl := h.vs.1
  rw [pubC_len] at hl
  refine ⟨?_, by omega⟩
  rcases h.vs.2 with ⟨e, h0⟩ | ⟨g', _, _, e, _⟩
  · unfold Sl.v at e; injection e with _ e2 _; omega
  · unfold Sl.v at e; injection e with _ e2 _
set_option maxHeartbeats 16000000 in
set_option maxRecDepth 100000 in
theorem or_Publish (Q R Qm : Nat → Prop) (p : Nat) (o : Org) (M : OM) (t : Int) (m : MV) (w : World) (hO : OrgP w p R Q o M) (hm : m.At Qm w) (ha : m.addr.size ≤ 1048576) (hf : m.f.length ≤ 131072) (hT : sumF m.f ≤ 131072)
    (hbn : m.body.size ≤ 1099511627776) (hv : m.vars.length ≤ 1048576)
    (hx : ∀ x ∈ m.vars, x.1.names.length ≤ 1048576 ∧ (∀ n ∈ x.1.names, n.size ≤ 1048576) ∧ x.1.tag.size ≤ 131072 ∧ x.1.body.size ≤ 1099511627776) (hg : Gl w) :
    Calls Tryz.prog 14 #[.pointer (some ⟨p, 0, none⟩), .int .i64 t, .agg m.cells.toArray] w fun e w' => e = .returned (.tuple #[.int .i64 (pubS o t m.ver).1, errV (pubS o t m.ver).2.1]) ∧
      ∃ R', (∃ M', OrgP w' p R' (fun i => (Q i ∧ i < w.heap.size) ∨ R' i) (pubS o t m.ver).2.2 M') ∧ Keeps R w w' ∧ (∀ i, R i → R' i) ∧ (∀ i, R' i → R i ∨ w.heap.size ≤ i) := by
  have HL := Lib.hid (fun w' (h : Ext w w') => or_large Qm m w' (hm.ext h) hbn (by omega))
  have HV := Lib.hid (fun w' (h : Ext w w') => or_valid Qm m w' (hm.ext h) ha (by omega) (by omega) hv (fun x h2 => ⟨(hx x h2).1, (hx x h2).2.1⟩) (hg.ext h))
  have HC := Lib.hid (fun w' (h : Ext w w') => or_clone Qm m w' (hm.ext h) (by omega) hbn hv (fun x h2 => ⟨(hx x h2).1, (hx x h2).2.2.2⟩))
  have HBd := Lib.hid (fun (h1 : bigVr m.ver = false) (h2 : okVr m.ver = true) => show VerB m.ver from by
    rw [bigVr_eq] at h1; rw [okVr_eq] at h2
    simp only [Bool.or_eq_false_iff, decide_eq_false_iff_not, Bool.and_eq_true, decide_eq_true_eq] at h1 h2
    refine ⟨ha, ⟨by show 0 ≤ m.status; omega, by show m.status ≤ 1000; omega⟩, ⟨hf, hT⟩, by show m.body.size ≤ _; omega, by show (m.vars.map (·.1)).length ≤ _; rw [List.length_map]; omega, ?_⟩
    intro x hx2
    obtain ⟨y, hy, rfl⟩ := List.mem_map.1 hx2
    obtain ⟨q1, q2, q3, q4⟩ := hx y hy
    refine ⟨q1, q2, q3, ?_⟩
    have := List.any_eq_false.1 h1.2 y hy
    unfold bigX at this
    simp at this; omega)
  have Hbig := Lib.hid (@pub_big o t m.ver); have Hfull := Lib.hid (@pub_full o t m.ver); have Hform := Lib.hid (@pub_form o t m.ver)
  have Hord := Lib.hid (fun q => @pub_ord o t m.ver q); have Hok := Lib.hid (@pub_ok o t m.ver)
  have HO := Lib.hid hO
  have HN := Lib.hid hO.vsn
  have hfew := hO.few
  have Hct := Lib.hid (show 0 ≤ cl55 t ∧ cl55 t ≤ 1099511627776 by unfold cl55; omega)
  have HCl := Lib.hid (fun w' => or_clip t w')
  obtain ⟨⟨vsA, vsn, vsc⟩, br, lg, mv⟩ := M
  obtain ⟨n, hn⟩ : ∃ n, o.vs.length = n := ⟨_, rfl⟩
  have hvn : n = vsn := (HN.out.1.trans hn).symm
  subst hvn
  have HP0 := Lib.hid (fun w' (h : Ext w w') => (show w'.cell? ⟨p, 0, none⟩ = some (.slice vsA n vsc) from (HO.out.blk.ext h).cell 0))
  rw [hn] at hfew
  have Hn := Lib.hid hn
  rw [hn] at Hfull Hform Hord Hok
  clear hm ha hf hT hbn hv hx hg hO hn
  generalize hP : pubS o t m.ver = PR at *
  generalize hBg : bigVr m.ver = bg at *
  generalize hOv : okVr m.ver = ov at *
  generalize cl55 t = ct at *
  obtain ⟨addr, status, f, body, vars, ⟨fA, fn, fc⟩, ⟨bA, bn, bc⟩, ⟨vA, vn, vc⟩⟩ := m
  simp only [MV.cells, Sl.v] at *
  clear hP hBg hOv
  have HX := Lib.hid (Blk.new w 36 #[.string addr, .int .i64 status, .slice fA fn fc, .slice bA bn bc, .slice vA vn vc])
  have HW := Lib.hid ((Ext.refl w).alloc (.cells #[.string addr, .int .i64 status, .slice fA fn fc, .slice bA bn bc, .slice vA vn vc] 36))
  have hE := Ext.refl (w.alloc (.cells #[.string addr, .int .i64 status, .slice fA fn fc, .slice bA bn bc, .slice vA vn vc] 36))
  go_enter Tryz.func14, Tryz.ntmps14
  go_wp2_with fail
  refine (HCl.out _).mono ?_; rintro e w1 ⟨rfl, rfl⟩
  generalize hWb : w.alloc (.cells #[.string addr, .int .i64 status, .slice fA fn fc, .slice bA bn bc, .slice vA vn vc] 36) = Wb at *
  clear hWb
  have HS := Lib.hid (fun w' (hh : Ext Wb w') => (⟨(HX.out.ext hh).cell 0, (HX.out.ext hh).cell 1, (HX.out.ext hh).cell 2, (HX.out.ext hh).cell 3, (HX.out.ext hh).cell 4⟩ : w'.cell? ⟨w.heap.size, 0, none⟩ = some (.string addr) ∧ w'.cell? ⟨w.heap.size, 1, none⟩ = some (.int .i64 status) ∧ w'.cell? ⟨w.heap.size, 2, none⟩ = some (.slice fA fn fc) ∧ w'.cell? ⟨w.heap.size, 3, none⟩ = some (.slice bA bn bc) ∧ w'.cell? ⟨w.heap.size, 4, none⟩ = some (.slice vA vn vc)))
  obtain ⟨x0, x1, x2, x3, x4⟩ := HS.out _ hE
  go_wp2_with fail
  refine (HL.out _ HW.out).mono ?_; rintro e w2 ⟨rfl, hb2⟩
  clear x0 x1 x2 x3 x4
  replace hE := hE.trans hb2
  cases bg with
  | true =>
    obtain rfl : PR = (0, 5, o) := Hbig.out (by trivial)
    go_wp2_with fail
    go_ret2
    exact ⟨rfl, R, ⟨⟨⟨vsA, n, vsc⟩, br, lg, mv⟩, (HO.out.ext (HW.out.trans hE)).more (fun i hi => .inl (hi.elim (fun h => h.1) (HO.out.rq i))) (fun b hb => .inr hb)⟩, Keeps.of (HW.out.trans hE), fun _ h => h, fun _ h => .inl h⟩
  | false =>
    have p0 := HP0.out _ (HW.out.trans hE)
    by_cases h4 : 4096 ≤ n
    · obtain rfl : PR = (0, 5, o) := Hfull.out h4
      have h4' : (4096 : Int) ≤ n := by omega
      go_wp2_with fail
      go_ret2
      exact ⟨rfl, R, ⟨⟨⟨vsA, n, vsc⟩, br, lg, mv⟩, (HO.out.ext (HW.out.trans hE)).more (fun i hi => .inl (hi.elim (fun h => h.1) (HO.out.rq i))) (fun b hb => .inr hb)⟩, Keeps.of (HW.out.trans hE), fun _ h => h, fun _ h => .inl h⟩
    · have h4' : ¬ (4096 : Int) ≤ n := by omega
      obtain ⟨x0, x1, x2, x3, x4⟩ := HS.out _ hE
      go_wp2_with fail
      refine (HV.out _ (HW.out.trans hE)).mono ?_; rintro e w3 ⟨rfl, hb3⟩
      clear x0 x1 x2 x3 x4 p0
      replace hE := hE.trans hb3
      cases ov with
      | false =>
        obtain rfl : PR = (0, 2, o) := Hform.out (by trivial) h4 (by trivial)
        go_wp2_with fail
        go_ret2
        exact ⟨rfl, R, ⟨⟨⟨vsA, n, vsc⟩, br, lg, mv⟩, (HO.out.ext (HW.out.trans hE)).more (fun i hi => .inl (hi.elim (fun h => h.1) (HO.out.rq i))) (fun b hb => .inr hb)⟩, Keeps.of (HW.out.trans hE), fun _ h => h, fun _ h => .inl h⟩
      | true =>
        go_wp2_with fail
        replace hE := hE.drew
        rcases Nat.eq_zero_or_pos n with hn0 | hn0
        · subst hn0
          have Hpr := Lib.hid (Hok.out (by trivial) h4 (by trivial) (fun q hq => by rw [List.getLast?_eq_none_iff.2 (List.eq_nil_of_length_eq_zero Hn.out)] at hq; cases hq))
          refine wp_region_held_drew (S := (fun w' => w'.cell? ⟨p, 0, none⟩ = some (.slice vsA 0 vsc))) (by kernel_rfl) ?_ (fun hHeld => ?_)
          · (try dsimp only); exact HP0.out _ (HW.out.trans hE)
          refine wpAnyH_take (i := 0) (oi := { dst := some 32, op := _, type := _, pos := _, after := _, guard := _ }) (v := ?_) rfl (by kernel_rfl) (by kernel_rfl) (by kernel_rfl) (fun _ _ _ h => h) (Or.inl ⟨by rfl, ?_⟩) (by assumption) ?_
          rotate_left
          · (intro w hSw; (try dsimp only at hSw); go_simp; (try with_reducible rfl))
          (try simp only [Act.put, List.setIfInBounds_toArray, List.set_cons_zero, List.set_cons_succ])
          refine wpAnyH_take (i := 1) (oi := { dst := some 33, op := _, type := _, pos := _, after := _, guard := _ }) (v := ?_) rfl (by kernel_rfl) (by kernel_rfl) (by kernel_rfl) (fun _ _ _ h => h) (Or.inl ⟨by rfl, ?_⟩) (by assumption) ?_
          rotate_left
          · (intro w hSw; (try dsimp only at hSw); go_simp; (try with_reducible rfl))
          (try simp only [Act.put, List.setIfInBounds_toArray, List.set_cons_zero, List.set_cons_succ])
          refine wpAnyH_take (i := 2) (oi := { dst := some 34, op := _, type := _, pos := _, after := _, guard := _ }) (v := ?_) rfl (by kernel_rfl) (by kernel_rfl) (by kernel_rfl) (fun _ _ _ h => h) (Or.inl ⟨by rfl, ?_⟩) (by assumption) ?_
          rotate_left
          · (intro w hSw; (try dsimp only at hSw); go_simp; (try with_reducible rfl))
          (try simp only [Act.put, List.setIfInBounds_toArray, List.set_cons_zero, List.set_cons_succ])
          refine wpAnyH_take (i := 3) (oi := { dst := some 35, op := _, type := _, pos := _, after := _, guard := _ }) (v := ?_) rfl (by kernel_rfl) (by kernel_rfl) (by kernel_rfl) (fun _ _ _ h => h) (Or.inl ⟨by rfl, ?_⟩) (by assumption) ?_
          rotate_left
          · (intro w hSw; (try dsimp only at hSw); go_simp; (try with_reducible rfl))
          (try simp only [Act.put, List.setIfInBounds_toArray, List.set_cons_zero, List.set_cons_succ])
          refine wpAnyH_take (i := 4) (oi := { dst := some 36, op := _, type := _, pos := _, after := _, guard := _ }) (v := ?_) rfl (by kernel_rfl) (by kernel_rfl) (by kernel_rfl) (fun _ _ _ h => h) (Or.inl ⟨by rfl, ?_⟩) (by assumption) ?_
          rotate_left
          · (intro w hSw; (try dsimp only at hSw); go_simp; (try with_reducible rfl))
          (try simp only [Act.put, List.setIfInBounds_toArray, List.set_cons_zero, List.set_cons_succ])
          refine wpAnyH_take (i := 5) (oi := { dst := some 37, op := _, type := _, pos := _, after := _, guard := _ }) (v := ?_) rfl (by kernel_rfl) (by kernel_rfl) (by kernel_rfl) (fun _ _ _ h => h) (Or.inl ⟨by rfl, ?_⟩) (by assumption) ?_
          rotate_left
          · (intro w hSw; (try dsimp only at hSw); go_simp; (try with_reducible rfl))
          (try simp only [Act.put, List.setIfInBounds_toArray, List.set_cons_zero, List.set_cons_succ])
          refine wpAnyH_take (i := 6) (oi := { dst := some 38, op := _, type := _, pos := _, after := _, guard := _ }) (v := ?_) rfl (by kernel_rfl) (by kernel_rfl) (by kernel_rfl) (fun _ _ _ h => h) (Or.inl ⟨by rfl, ?_⟩) (by assumption) ?_
          rotate_left
          · (intro w hSw; (try dsimp only at hSw); go_simp; (try with_reducible rfl))
          (try simp only [Act.put, List.setIfInBounds_toArray, List.set_cons_zero, List.set_cons_succ])
          refine wpAnyH_take (i := 7) (oi := { dst := some 39, op := _, type := _, pos := _, after := _, guard := _ }) (v := undef) rfl (by kernel_rfl) (by kernel_rfl) (by kernel_rfl) (fun _ _ _ h => h) (Or.inr ⟨by rfl, rfl⟩) (by assumption) ?_
          (try simp only [Act.put, List.setIfInBounds_toArray, List.set_cons_zero, List.set_cons_succ])
          refine wpAnyH_take (i := 8) (oi := { dst := some 40, op := _, type := _, pos := _, after := _, guard := _ }) (v := undef) rfl (by kernel_rfl) (by kernel_rfl) (by kernel_rfl) (fun _ _ _ h => h) (Or.inr ⟨by rfl, rfl⟩) (by assumption) ?_
          (try simp only [Act.put, List.setIfInBounds_toArray, List.set_cons_zero, List.set_cons_succ])
          refine wpAnyH_take (i := 9) (oi := { dst := some 41, op := _, type := _, pos := _, after := _, guard := _ }) (v := undef) rfl (by kernel_rfl) (by kernel_rfl) (by kernel_rfl) (fun _ _ _ h => h) (Or.inr ⟨by rfl, rfl⟩) (by assumption) ?_
          (try simp only [Act.put, List.setIfInBounds_toArray, List.set_cons_zero, List.set_cons_succ])
          refine wpAnyH_take (i := 10) (oi := { dst := some 42, op := _, type := _, pos := _, after := _, guard := _ }) (v := undef) rfl (by kernel_rfl) (by kernel_rfl) (by kernel_rfl) (fun _ _ _ h => h) (Or.inr ⟨by rfl, rfl⟩) (by assumption) ?_
          (try simp only [Act.put, List.setIfInBounds_toArray, List.set_cons_zero, List.set_cons_succ])
          refine wpAnyH_take (i := 11) (oi := { dst := some 43, op := _, type := _, pos := _, after := _, guard := _ }) (v := undef) rfl (by kernel_rfl) (by kernel_rfl) (by kernel_rfl) (fun _ _ _ h => h) (Or.inr ⟨by rfl, rfl⟩) (by assumption) ?_
          (try simp only [Act.put, List.setIfInBounds_toArray, List.set_cons_zero, List.set_cons_succ])
          refine wpAnyH_take (i := 12) (oi := { dst := some 44, op := _, type := _, pos := _, after := _, guard := _ }) (v := undef) rfl (by kernel_rfl) (by kernel_rfl) (by kernel_rfl) (fun _ _ _ h => h) (Or.inr ⟨by rfl, rfl⟩) (by assumption) ?_
          (try simp only [Act.put, List.setIfInBounds_toArray, List.set_cons_zero, List.set_cons_succ])
          refine wpAnyH_take (i := 13) (oi := { dst := some 45, op := _, type := _, pos := _, after := _, guard := _ }) (v := undef) rfl (by kernel_rfl) (by kernel_rfl) (by kernel_rfl) (fun _ _ _ h => h) (Or.inr ⟨by rfl, rfl⟩) (by assumption) ?_
          (try simp only [Act.put, List.setIfInBounds_toArray, List.set_cons_zero, List.set_cons_succ])
          refine wpAnyH_take (i := 14) (oi := { dst := some 46, op := _, type := _, pos := _, after := _, guard := _ }) (v := undef) rfl (by kernel_rfl) (by kernel_rfl) (by kernel_rfl) (fun _ _ _ h => h) (Or.inr ⟨by rfl, rfl⟩) (by assumption) ?_
          (try simp only [Act.put, List.setIfInBounds_toArray, List.set_cons_zero, List.set_cons_succ])
          refine wpAnyH_take (i := 15) (oi := { dst := some 47, op := _, type := _, pos := _, after := _, guard := _ }) (v := undef) rfl (by kernel_rfl) (by kernel_rfl) (by kernel_rfl) (fun _ _ _ h => h) (Or.inr ⟨by rfl, rfl⟩) (by assumption) ?_
          (try simp only [Act.put, List.setIfInBounds_toArray, List.set_cons_zero, List.set_cons_succ])
          refine wpAnyH_take (i := 16) (oi := { dst := some 48, op := _, type := _, pos := _, after := _, guard := _ }) (v := undef) rfl (by kernel_rfl) (by kernel_rfl) (by kernel_rfl) (fun _ _ _ h => h) (Or.inr ⟨by rfl, rfl⟩) (by assumption) ?_
          (try simp only [Act.put, List.setIfInBounds_toArray, List.set_cons_zero, List.set_cons_succ])
          refine wpAnyH_take (i := 17) (oi := { dst := some 49, op := _, type := _, pos := _, after := _, guard := _ }) (v := undef) rfl (by kernel_rfl) (by kernel_rfl) (by kernel_rfl) (fun _ _ _ h => h) (Or.inr ⟨by rfl, rfl⟩) (by assumption) ?_
          (try simp only [Act.put, List.setIfInBounds_toArray, List.set_cons_zero, List.set_cons_succ])
          refine wpAnyH_take (i := 18) (oi := { dst := some 50, op := _, type := _, pos := _, after := _, guard := _ }) (v := undef) rfl (by kernel_rfl) (by kernel_rfl) (by kernel_rfl) (fun _ _ _ h => h) (Or.inr ⟨by rfl, rfl⟩) (by assumption) ?_
          (try simp only [Act.put, List.setIfInBounds_toArray, List.set_cons_zero, List.set_cons_succ])
          refine wpAnyH_take (i := 19) (oi := { dst := some 51, op := _, type := _, pos := _, after := _, guard := _ }) (v := undef) rfl (by kernel_rfl) (by kernel_rfl) (by kernel_rfl) (fun _ _ _ h => h) (Or.inr ⟨by rfl, rfl⟩) (by assumption) ?_
          (try simp only [Act.put, List.setIfInBounds_toArray, List.set_cons_zero, List.set_cons_succ])
          refine wpAnyH_take (i := 20) (oi := { dst := some 52, op := _, type := _, pos := _, after := _, guard := _ }) (v := undef) rfl (by kernel_rfl) (by kernel_rfl) (by kernel_rfl) (fun _ _ _ h => h) (Or.inr ⟨by rfl, rfl⟩) (by assumption) ?_
          (try simp only [Act.put, List.setIfInBounds_toArray, List.set_cons_zero, List.set_cons_succ])
          refine wpAnyH_take (i := 21) (oi := { dst := some 53, op := _, type := _, pos := _, after := _, guard := _ }) (v := undef) rfl (by kernel_rfl) (by kernel_rfl) (by kernel_rfl) (fun _ _ _ h => h) (Or.inr ⟨by rfl, rfl⟩) (by assumption) ?_
          (try simp only [Act.put, List.setIfInBounds_toArray, List.set_cons_zero, List.set_cons_succ])
          refine wpAnyH_take (i := 22) (oi := { dst := some 54, op := _, type := _, pos := _, after := _, guard := _ }) (v := ?_) rfl (by kernel_rfl) (by kernel_rfl) (by kernel_rfl) (fun _ _ _ h => h) (Or.inl ⟨by rfl, ?_⟩) (by assumption) ?_
          rotate_left
          · (intro w hSw; (try dsimp only at hSw); go_simp; (try with_reducible rfl))
          (try simp only [Act.put, List.setIfInBounds_toArray, List.set_cons_zero, List.set_cons_succ])
          refine wpAnyH_take (i := 23) (oi := { dst := some 31, op := _, type := _, pos := _, after := _, guard := _ }) (v := ?_) rfl (by kernel_rfl) (by kernel_rfl) (by kernel_rfl) (fun _ _ _ h => h) (Or.inl ⟨by rfl, ?_⟩) (by assumption) ?_
          rotate_left
          · (intro w hSw; (try dsimp only at hSw); go_simp; (try with_reducible rfl))
          (try simp only [Act.put, List.setIfInBounds_toArray, List.set_cons_zero, List.set_cons_succ])
          refine wpAnyH_done (by kernel_rfl) ?_ _
          go_wp2_with fail
          replace hE := hE.drew
          refine wp_region_U (S := (fun w' => w'.cell? ⟨p, 0, none⟩ = some (.slice vsA 0 vsc) ∧ w'.cell? ⟨w.heap.size, 0, none⟩ = some (.string addr) ∧ w'.cell? ⟨w.heap.size, 1, none⟩ = some (.int .i64 status) ∧ w'.cell? ⟨w.heap.size, 2, none⟩ = some (.slice fA fn fc) ∧ w'.cell? ⟨w.heap.size, 3, none⟩ = some (.slice bA bn bc) ∧ w'.cell? ⟨w.heap.size, 4, none⟩ = some (.slice vA vn vc))) 10 (by kernel_rfl) ?_ (fun hHeld => ?_)
          · (try dsimp only); exact ⟨HP0.out _ (HW.out.trans hE), HS.out _ hE⟩
          refine wpAnyU_takeW (i := 0) (oi := { dst := some 56, op := _, type := _, pos := _, after := _, guard := _ }) (v := ?_) (by kernel_rfl) rfl (by kernel_rfl) (by kernel_rfl) (by kernel_rfl) (fun _ _ _ h => h) (Or.inl ⟨by rfl, ?_⟩) (by assumption) ?_
          rotate_left
          · (intro w hSw; (try dsimp only at hSw); go_simp; (try with_reducible rfl))
          (try simp only [Act.put, List.setIfInBounds_toArray, List.set_cons_zero, List.set_cons_succ])
          refine wpAnyU_takeW (i := 1) (oi := { dst := some 57, op := _, type := _, pos := _, after := _, guard := _ }) (v := ?_) (by kernel_rfl) rfl (by kernel_rfl) (by kernel_rfl) (by kernel_rfl) (fun _ _ _ h => h) (Or.inl ⟨by rfl, ?_⟩) (by assumption) ?_
          rotate_left
          · (intro w hSw; (try dsimp only at hSw); go_simp; (try with_reducible rfl))
          (try simp only [Act.put, List.setIfInBounds_toArray, List.set_cons_zero, List.set_cons_succ])
          refine wpAnyU_takeW (i := 2) (oi := { dst := some 58, op := _, type := _, pos := _, after := _, guard := _ }) (v := ?_) (by kernel_rfl) rfl (by kernel_rfl) (by kernel_rfl) (by kernel_rfl) (fun _ _ _ h => h) (Or.inl ⟨by rfl, ?_⟩) (by assumption) ?_
          rotate_left
          · (intro w hSw; (try dsimp only at hSw); go_simp; (try with_reducible rfl))
          (try simp only [Act.put, List.setIfInBounds_toArray, List.set_cons_zero, List.set_cons_succ])
          refine wpAnyU_takeW (i := 3) (oi := { dst := some 59, op := _, type := _, pos := _, after := _, guard := _ }) (v := ?_) (by kernel_rfl) rfl (by kernel_rfl) (by kernel_rfl) (by kernel_rfl) (fun _ _ _ h => h) (Or.inl ⟨by rfl, ?_⟩) (by assumption) ?_
          rotate_left
          · (intro w hSw; (try dsimp only at hSw); go_simp; (try with_reducible rfl))
          (try simp only [Act.put, List.setIfInBounds_toArray, List.set_cons_zero, List.set_cons_succ])
          refine wpAnyU_take (i := 4) (oi := { dst := some 60, op := _, type := _, pos := _, after := _, guard := _ }) (v := ?_) [10, 11, 12, 13] (by kernel_rfl) (by kernel_rfl) (by kernel_rfl) (by kernel_rfl) rfl (by kernel_rfl) (by kernel_rfl) (by kernel_rfl) (fun _ _ _ h => h) (Or.inl ⟨by rfl, ?_⟩) (by assumption) ?_
          rotate_left
          · (intro w hSw; (try dsimp only at hSw); go_simp; (try with_reducible rfl))
          (try simp only [Act.put, List.setIfInBounds_toArray, List.set_cons_zero, List.set_cons_succ])
          refine wpAnyU_takeW (i := 5) (oi := { dst := some 61, op := _, type := _, pos := _, after := _, guard := _ }) (v := ?_) (by kernel_rfl) rfl (by kernel_rfl) (by kernel_rfl) (by kernel_rfl) (fun _ _ _ h => h) (Or.inl ⟨by rfl, ?_⟩) (by assumption) ?_
          rotate_left
          · (intro w hSw; (try dsimp only at hSw); go_simp; (try with_reducible rfl))
          (try simp only [Act.put, List.setIfInBounds_toArray, List.set_cons_zero, List.set_cons_succ])
          refine wpAnyU_take (i := 6) (oi := { dst := some 62, op := _, type := _, pos := _, after := _, guard := _ }) (v := ?_) [7, 8, 9, 10, 11, 12, 13] (by kernel_rfl) (by kernel_rfl) (by kernel_rfl) (by kernel_rfl) rfl (by kernel_rfl) (by kernel_rfl) (by kernel_rfl) (fun _ _ _ h => h) (Or.inl ⟨by rfl, ?_⟩) (by assumption) ?_
          rotate_left
          · (intro w hSw; (try dsimp only at hSw); go_simp; (try with_reducible rfl))
          (try simp only [Act.put, List.setIfInBounds_toArray, List.set_cons_zero, List.set_cons_succ])
          refine wpAnyU_ready (rs := [7]) (by kernel_rfl) (by simp) ?_
          refine AllReadyU.cons (o := { dst := some 63, op := _, type := _, pos := _, after := _, guard := _ }) rfl (fun K hK => ?_) AllReadyU.nil
          go_simp
          have HEc := Lib.hid hE; refine (HC.out _ (HW.out.trans hE)).mono ?_; rintro e w5 ⟨⟨addr2, status2, f2, body2, vars2, ⟨fA2, fn2, fc2⟩, ⟨bA2, bn2, bc2⟩, ⟨vA2, vn2, vc2⟩⟩, rfl, hver, hAt, hb5⟩; have Hver := Lib.hid hver; have HAt := Lib.hid hAt; replace hE := hE.trans hb5; have HE5 := Lib.hid hE; clear hver hAt hb5; (simp only [MV.cells, Sl.v])
          try go_wp2_with fail
          refine hK.out _ _ ?_ (fun hHeld => ?_)
          · (try dsimp only); exact ⟨HP0.out _ (HW.out.trans hE), HS.out _ hE⟩
          clear hK K
          (try simp only [Act.put, List.setIfInBounds_toArray, List.set_cons_zero, List.set_cons_succ])
          refine wpAnyU_takeW (i := 8) (oi := { dst := some 64, op := _, type := _, pos := _, after := _, guard := _ }) (v := ?_) (by kernel_rfl) rfl (by kernel_rfl) (by kernel_rfl) (by kernel_rfl) (fun _ _ _ h => h) (Or.inl ⟨by rfl, ?_⟩) (by assumption) ?_
          rotate_left
          · (intro w hSw; (try dsimp only at hSw); go_simp; (try with_reducible rfl))
          (try simp only [Act.put, List.setIfInBounds_toArray, List.set_cons_zero, List.set_cons_succ])
          refine wpAnyU_ready (rs := [9]) (by kernel_rfl) (by simp) ?_
          refine AllReadyU.cons (o := { dst := some 65, op := _, type := _, pos := _, after := _, guard := _ }) rfl (fun K hK => ?_) AllReadyU.nil
          go_simp
          replace hE := hE.alloc (.cells #[.int .i64 ct, .string addr2, .int .i64 status2, .slice fA2 fn2 fc2, .slice bA2 bn2 bc2, .slice vA2 vn2 vc2] 103); have HEa := Lib.hid hE
          try go_wp2_with fail
          refine hK.out _ _ ?_ (fun hHeld => ?_)
          · (try dsimp only); exact ⟨HP0.out _ (HW.out.trans hE), HS.out _ hE⟩
          clear hK K
          (try simp only [Act.put, List.setIfInBounds_toArray, List.set_cons_zero, List.set_cons_succ])
          refine wpAnyU_ready (rs := [10]) (by kernel_rfl) (by simp) ?_
          refine AllReadyU.stop (o := { dst := some 66, op := _, type := _, pos := _, after := _, guard := _ }) rfl (by kernel_rfl) (fun K hK => ?_) AllReadyU.nil
          refine step_appO _ rfl (.tmp 60) (.tmp 65) 97 rfl 103 _ 6 104 Tryz.underlying97 infoPub (by simp [Value.cells]) (by decide) _ _ _ rfl (own_ext HO.out.vs (HW.out.trans hE)) _ 1 1 (pubC (ct, ⟨addr2, status2, f2, body2, vars2, ⟨fA2, fn2, fc2⟩, ⟨bA2, bn2, bc2⟩, ⟨vA2, vn2, vc2⟩⟩)) rfl (Rd.lit _ _ _ rfl 6 1 rfl) (by have := pubC_one [(ct, ⟨addr2, status2, f2, body2, vars2, ⟨fA2, fn2, fc2⟩, ⟨bA2, bn2, bc2⟩, ⟨vA2, vn2, vc2⟩⟩)]; simpa using this) (by rw [Hn.out]; omega) (by decide) ?_; intro A6 c6 w6 hown6 hle6 hg6 hn6
          refine hK.out _ _ ?_ (fun hHeld => ?_)
          · (try dsimp only); (try trivial)
          clear hK K
          (try simp only [Act.put, List.setIfInBounds_toArray, List.set_cons_zero, List.set_cons_succ])
          refine wpAnyH_take (i := 11) (oi := { dst := some 67, op := _, type := _, pos := _, after := _, guard := _ }) (v := ?_) rfl (by kernel_rfl) (by kernel_rfl) (by kernel_rfl) (fun _ _ _ h => h) (Or.inl ⟨by rfl, ?_⟩) (by assumption) ?_
          rotate_left
          · (intro w hSw; (try dsimp only at hSw); go_simp; (try with_reducible rfl))
          (try simp only [Act.put, List.setIfInBounds_toArray, List.set_cons_zero, List.set_cons_succ])
          refine wpAnyH_take (i := 12) (oi := { dst := some 68, op := _, type := _, pos := _, after := _, guard := _ }) (v := ?_) rfl (by kernel_rfl) (by kernel_rfl) (by kernel_rfl) (fun _ _ _ h => h) (Or.inl ⟨by rfl, ?_⟩) (by assumption) ?_
          rotate_left
          · (intro w hSw; (try dsimp only at hSw); go_simp; (try with_reducible rfl))
          (try simp only [Act.put, List.setIfInBounds_toArray, List.set_cons_zero, List.set_cons_succ])
          refine wpAnyH_ready (rs := [13]) (by kernel_rfl) (by simp) ?_
          refine AllReadyH.cons (o := { dst := none, op := _, type := _, pos := _, after := _, guard := _ }) rfl (fun K hK => ?_) AllReadyH.nil
          have hOx := HO.out.ext (HW.out.trans hE); have hPb := hOx.blk.grown hg6 (Ne.symm (own_blk hOx.vs hOx.blk (by decide))); have kp := hPb.cell 0; have fp := hPb.frozen 0; clear hOx hPb; (simp only [Sl.v] at kp)
          go_simp
          try go_wp2_with fail
          refine hK.out _ _ ?_ (fun hHeld => ?_)
          · (try dsimp only); (try trivial)
          clear hK K
          (try simp only [Act.put, List.setIfInBounds_toArray, List.set_cons_zero, List.set_cons_succ])
          refine wpAnyH_done (by kernel_rfl) ?_ _
          clear kp fp
          have hOa := (HO.out.ext (HW.out.trans hE)).more (Q' := fun i => Q i ∧ i < w.heap.size) (fun i hi => .inl hi.1) (fun b hb => ⟨HO.out.rq b hb, HO.out.low b hb⟩)
          have hwe := (HW.out.trans hE).size
          obtain ⟨hO2, hK2⟩ := hOa.addV (x := (ct, ⟨addr2, status2, f2, body2, vars2, ⟨fA2, fn2, fc2⟩, ⟨bA2, bn2, bc2⟩, ⟨vA2, vn2, vc2⟩⟩)) hown6 hg6 hn6 ((HAt.out.sub (fun i hi => Nat.lt_of_lt_of_le hi.2 (HW.out.trans HEc.out).size)).ext ((Ext.refl _).alloc _)) (by rw [Hn.out]; omega) ⟨by rw [Hver.out]; exact HBd.out (by trivial) (by trivial), Hct.out⟩
          have HO2 := Lib.hid hO2; have HK2 := Lib.hid ((Keeps.of (HW.out.trans hE)).trans hK2)
          have q0 : (w6.setCell ⟨p, 0, none⟩ (.slice A6 (o.vs.length + 1) c6)).cell? ⟨p, 0, none⟩ = some (.slice A6 (o.vs.length + 1) c6) := hO2.blk.cell 0
          have Hn6 := Lib.hid hn6
          clear hO2 hK2 hOa hn6 hown6 hg6
          generalize (w6.setCell ⟨p, 0, none⟩ (.slice A6 (o.vs.length + 1) c6)) = wF at *
          obtain rfl := Hpr.out
          go_wp2_with fail
          go_ret2
          refine ⟨by (try simp only [Hn.out]); rfl, Rplus R (.slice A6 (o.vs.length + 1) c6), ⟨⟨⟨A6, o.vs.length + 1, c6⟩, br, lg, mv ++ [(ct, ⟨addr2, status2, f2, body2, vars2, ⟨fA2, fn2, fc2⟩, ⟨bA2, bn2, bc2⟩, ⟨vA2, vn2, vc2⟩⟩)]⟩, ?_⟩, HK2.out, fun _ h => .inl h, fun i hi => ?_⟩
          · have h9 := HO2.out.more (Q' := fun i => (Q i ∧ i < w.heap.size) ∨ Rplus R (.slice A6 (o.vs.length + 1) c6) i) (fun i hi => .inl (hi.elim (fun h => .inl ⟨h, Nat.lt_of_lt_of_le h.2 hwe⟩) (fun h => HO2.out.rq i h))) (fun b hb => .inr hb)
            rw [Hver.out] at h9
            exact h9
          · rcases hi with hi | hi
            · exact .inl hi
            · rcases Hn6.out with e | e
              · rw [e] at hi; exact .inl (HO.out.rv i hi)
              · rw [e] at hi; injection hi with hi; exact .inr (by omega)
        · obtain ⟨k, rfl⟩ : ∃ k, n = k + 1 := ⟨n - 1, by omega⟩
          have hkm : k < mv.length := by have h1 : mv.length = o.vs.length := HN.out.2; have := Hn.out; omega
          obtain ⟨g, hA, d0, -⟩ := HO.out.at_ hkm
          simp only at hA d0
          subst hA
          have hkv : k < o.vs.length := by have := Hn.out; omega
          have Hlast := Lib.hid (show o.vs.getLast? = some o.vs[k] by rw [List.getLast?_eq_getElem?, Hn.out]; exact List.getElem?_eq_getElem hkv)
          have hmk : mv[k].1 = o.vs[k].1 := by
            have h1 : (mv.map (fun x => (x.1, x.2.ver)))[k]? = o.vs[k]? := congrArg (·[k]?) HO.out.ver
            rw [List.getElem?_map, List.getElem?_eq_getElem hkm, List.getElem?_eq_getElem hkv] at h1
            simp only [Option.map_some, Option.some.injEq] at h1
            exact congrArg Prod.fst h1
          rw [hmk] at d0
          have HD0 := Lib.hid (fun w' (h : Ext w w') => h.cell d0)
          have Hord := Lib.hid (fun h => Hord.out _ (by trivial) h4 (by trivial) Hlast.out h)
          have Hok := Lib.hid (fun h => Hok.out (by trivial) h4 (by trivial) (fun q hq => by rw [Hlast.out] at hq; injection hq with hq; subst hq; exact h))
          clear hmk d0 hkm Hlast
          generalize o.vs[k].1 = tl at *
          have hwm : IntKind.i64.wrap (((k + 1 : Nat) : Int) - 1) = (k : Int) := by rw [IntWalk.i64_in _ (by omega)]; omega
          have hwk : IntKind.i64.wrap (k : Int) = (k : Int) := IntWalk.i64_in _ (by omega)
          have hk1 : (k : Int) < (k : Int) + 1 := by omega
          clear hkv
          by_cases hlt : ct < tl
          · obtain rfl : PR = (0, 7, o) := Hord.out hlt
            refine wp_region_held_drew (S := (fun w' => w'.cell? ⟨p, 0, none⟩ = some (.slice (some ⟨g, 0, none⟩) (k + 1) vsc) ∧ w'.cell? ⟨g, k * 6, none⟩ = some (.int .i64 tl))) (by kernel_rfl) ?_ (fun hHeld => ?_)
            · (try dsimp only); exact ⟨HP0.out _ (HW.out.trans hE), HD0.out _ (HW.out.trans hE)⟩
            refine wpAnyH_take (i := 0) (oi := { dst := some 32, op := _, type := _, pos := _, after := _, guard := _ }) (v := ?_) rfl (by kernel_rfl) (by kernel_rfl) (by kernel_rfl) (fun _ _ _ h => h) (Or.inl ⟨by rfl, ?_⟩) (by assumption) ?_
            rotate_left
            · (intro w hSw; (try dsimp only at hSw); go_simp; (try with_reducible rfl))
            (try simp only [Act.put, List.setIfInBounds_toArray, List.set_cons_zero, List.set_cons_succ])
            refine wpAnyH_take (i := 1) (oi := { dst := some 33, op := _, type := _, pos := _, after := _, guard := _ }) (v := ?_) rfl (by kernel_rfl) (by kernel_rfl) (by kernel_rfl) (fun _ _ _ h => h) (Or.inl ⟨by rfl, ?_⟩) (by assumption) ?_
            rotate_left
            · (intro w hSw; (try dsimp only at hSw); go_simp; (try with_reducible rfl))
            (try simp only [Act.put, List.setIfInBounds_toArray, List.set_cons_zero, List.set_cons_succ])
            refine wpAnyH_take (i := 2) (oi := { dst := some 34, op := _, type := _, pos := _, after := _, guard := _ }) (v := ?_) rfl (by kernel_rfl) (by kernel_rfl) (by kernel_rfl) (fun _ _ _ h => h) (Or.inl ⟨by rfl, ?_⟩) (by assumption) ?_
            rotate_left
            · (intro w hSw; (try dsimp only at hSw); go_simp; (try with_reducible rfl))
            (try simp only [Act.put, List.setIfInBounds_toArray, List.set_cons_zero, List.set_cons_succ])
            refine wpAnyH_take (i := 3) (oi := { dst := some 35, op := _, type := _, pos := _, after := _, guard := _ }) (v := ?_) rfl (by kernel_rfl) (by kernel_rfl) (by kernel_rfl) (fun _ _ _ h => h) (Or.inl ⟨by rfl, ?_⟩) (by assumption) ?_
            rotate_left
            · (intro w hSw; (try dsimp only at hSw); go_simp; (try with_reducible rfl))
            (try simp only [Act.put, List.setIfInBounds_toArray, List.set_cons_zero, List.set_cons_succ])
            refine wpAnyH_take (i := 4) (oi := { dst := some 36, op := _, type := _, pos := _, after := _, guard := _ }) (v := ?_) rfl (by kernel_rfl) (by kernel_rfl) (by kernel_rfl) (fun _ _ _ h => h) (Or.inl ⟨by rfl, ?_⟩) (by assumption) ?_
            rotate_left
            · (intro w hSw; (try dsimp only at hSw); go_simp; (try with_reducible rfl))
            (try simp only [Act.put, List.setIfInBounds_toArray, List.set_cons_zero, List.set_cons_succ])
            refine wpAnyH_take (i := 5) (oi := { dst := some 37, op := _, type := _, pos := _, after := _, guard := _ }) (v := ?_) rfl (by kernel_rfl) (by kernel_rfl) (by kernel_rfl) (fun _ _ _ h => h) (Or.inl ⟨by rfl, ?_⟩) (by assumption) ?_
            rotate_left
            · (intro w hSw; (try dsimp only at hSw); go_simp; (try with_reducible rfl))
            (try simp only [Act.put, List.setIfInBounds_toArray, List.set_cons_zero, List.set_cons_succ])
            refine wpAnyH_take (i := 6) (oi := { dst := some 38, op := _, type := _, pos := _, after := _, guard := _ }) (v := ?_) rfl (by kernel_rfl) (by kernel_rfl) (by kernel_rfl) (fun _ _ _ h => h) (Or.inl ⟨by rfl, ?_⟩) (by assumption) ?_
            rotate_left
            · (intro w hSw; (try dsimp only at hSw); go_simp; (try with_reducible rfl))
            (try simp only [Act.put, List.setIfInBounds_toArray, List.set_cons_zero, List.set_cons_succ])
            refine wpAnyH_take (i := 7) (oi := { dst := some 39, op := _, type := _, pos := _, after := _, guard := _ }) (v := ?_) rfl (by kernel_rfl) (by kernel_rfl) (by kernel_rfl) (fun _ _ _ h => h) (Or.inl ⟨by rfl, ?_⟩) (by assumption) ?_
            rotate_left
            · (intro w hSw; (try dsimp only at hSw); go_simp; (try with_reducible rfl))
            (try simp only [Act.put, List.setIfInBounds_toArray, List.set_cons_zero, List.set_cons_succ])
            refine wpAnyH_take (i := 8) (oi := { dst := some 40, op := _, type := _, pos := _, after := _, guard := _ }) (v := ?_) rfl (by kernel_rfl) (by kernel_rfl) (by kernel_rfl) (fun _ _ _ h => h) (Or.inl ⟨by rfl, ?_⟩) (by assumption) ?_
            rotate_left
            · (intro w hSw; (try dsimp only at hSw); go_simp; (try with_reducible rfl))
            (try simp only [Act.put, List.setIfInBounds_toArray, List.set_cons_zero, List.set_cons_succ])
            refine wpAnyH_take (i := 9) (oi := { dst := some 41, op := _, type := _, pos := _, after := _, guard := _ }) (v := ?_) rfl (by kernel_rfl) (by kernel_rfl) (by kernel_rfl) (fun _ _ _ h => h) (Or.inl ⟨by rfl, ?_⟩) (by assumption) ?_
            rotate_left
            · (intro w hSw; (try dsimp only at hSw); go_simp; (try with_reducible rfl))
            (try simp only [Act.put, List.setIfInBounds_toArray, List.set_cons_zero, List.set_cons_succ])
            refine wpAnyH_take (i := 10) (oi := { dst := some 42, op := _, type := _, pos := _, after := _, guard := _ }) (v := ?_) rfl (by kernel_rfl) (by kernel_rfl) (by kernel_rfl) (fun _ _ _ h => h) (Or.inl ⟨by rfl, ?_⟩) (by assumption) ?_
            rotate_left
            · (intro w hSw; (try dsimp only at hSw); go_simp; (try with_reducible rfl))
            (try simp only [Act.put, List.setIfInBounds_toArray, List.set_cons_zero, List.set_cons_succ])
            refine wpAnyH_take (i := 11) (oi := { dst := some 43, op := _, type := _, pos := _, after := _, guard := _ }) (v := ?_) rfl (by kernel_rfl) (by kernel_rfl) (by kernel_rfl) (fun _ _ _ h => h) (Or.inl ⟨by rfl, ?_⟩) (by assumption) ?_
            rotate_left
            · (intro w hSw; (try dsimp only at hSw); go_simp; (try with_reducible rfl))
            (try simp only [Act.put, List.setIfInBounds_toArray, List.set_cons_zero, List.set_cons_succ])
            refine wpAnyH_take (i := 12) (oi := { dst := some 44, op := _, type := _, pos := _, after := _, guard := _ }) (v := ?_) rfl (by kernel_rfl) (by kernel_rfl) (by kernel_rfl) (fun _ _ _ h => h) (Or.inl ⟨by rfl, ?_⟩) (by assumption) ?_
            rotate_left
            · (intro w hSw; (try dsimp only at hSw); go_simp; (try with_reducible rfl))
            (try simp only [Act.put, List.setIfInBounds_toArray, List.set_cons_zero, List.set_cons_succ])
            refine wpAnyH_take (i := 13) (oi := { dst := some 45, op := _, type := _, pos := _, after := _, guard := _ }) (v := ?_) rfl (by kernel_rfl) (by kernel_rfl) (by kernel_rfl) (fun _ _ _ h => h) (Or.inl ⟨by rfl, ?_⟩) (by assumption) ?_
            rotate_left
            · (intro w hSw; (try dsimp only at hSw); go_simp; (try with_reducible rfl))
            (try simp only [Act.put, List.setIfInBounds_toArray, List.set_cons_zero, List.set_cons_succ])
            refine wpAnyH_take (i := 14) (oi := { dst := some 46, op := _, type := _, pos := _, after := _, guard := _ }) (v := ?_) rfl (by kernel_rfl) (by kernel_rfl) (by kernel_rfl) (fun _ _ _ h => h) (Or.inl ⟨by rfl, ?_⟩) (by assumption) ?_
            rotate_left
            · (intro w hSw; (try dsimp only at hSw); go_simp; (try with_reducible rfl))
            (try simp only [Act.put, List.setIfInBounds_toArray, List.set_cons_zero, List.set_cons_succ])
            refine wpAnyH_take (i := 15) (oi := { dst := some 47, op := _, type := _, pos := _, after := _, guard := _ }) (v := ?_) rfl (by kernel_rfl) (by kernel_rfl) (by kernel_rfl) (fun _ _ _ h => h) (Or.inl ⟨by rfl, ?_⟩) (by assumption) ?_
            rotate_left
            · (intro w hSw; (try dsimp only at hSw); go_simp; (try with_reducible rfl))
            (try simp only [Act.put, List.setIfInBounds_toArray, List.set_cons_zero, List.set_cons_succ])
            refine wpAnyH_take (i := 16) (oi := { dst := some 48, op := _, type := _, pos := _, after := _, guard := _ }) (v := ?_) rfl (by kernel_rfl) (by kernel_rfl) (by kernel_rfl) (fun _ _ _ h => h) (Or.inl ⟨by rfl, ?_⟩) (by assumption) ?_
            rotate_left
            · (intro w hSw; (try dsimp only at hSw); go_simp; (try with_reducible rfl))
            (try simp only [Act.put, List.setIfInBounds_toArray, List.set_cons_zero, List.set_cons_succ])
            refine wpAnyH_take (i := 17) (oi := { dst := some 49, op := _, type := _, pos := _, after := _, guard := _ }) (v := ?_) rfl (by kernel_rfl) (by kernel_rfl) (by kernel_rfl) (fun _ _ _ h => h) (Or.inl ⟨by rfl, ?_⟩) (by assumption) ?_
            rotate_left
            · (intro w hSw; (try dsimp only at hSw); go_simp; (try with_reducible rfl))
            (try simp only [Act.put, List.setIfInBounds_toArray, List.set_cons_zero, List.set_cons_succ])
            refine wpAnyH_take (i := 18) (oi := { dst := some 50, op := _, type := _, pos := _, after := _, guard := _ }) (v := ?_) rfl (by kernel_rfl) (by kernel_rfl) (by kernel_rfl) (fun _ _ _ h => h) (Or.inl ⟨by rfl, ?_⟩) (by assumption) ?_
            rotate_left
            · (intro w hSw; (try dsimp only at hSw); go_simp; (try with_reducible rfl))
            (try simp only [Act.put, List.setIfInBounds_toArray, List.set_cons_zero, List.set_cons_succ])
            refine wpAnyH_take (i := 19) (oi := { dst := some 51, op := _, type := _, pos := _, after := _, guard := _ }) (v := ?_) rfl (by kernel_rfl) (by kernel_rfl) (by kernel_rfl) (fun _ _ _ h => h) (Or.inl ⟨by rfl, ?_⟩) (by assumption) ?_
            rotate_left
            · (intro w hSw; (try dsimp only at hSw); go_simp; (try with_reducible rfl))
            (try simp only [Act.put, List.setIfInBounds_toArray, List.set_cons_zero, List.set_cons_succ])
            refine wpAnyH_take (i := 20) (oi := { dst := some 52, op := _, type := _, pos := _, after := _, guard := _ }) (v := ?_) rfl (by kernel_rfl) (by kernel_rfl) (by kernel_rfl) (fun _ _ _ h => h) (Or.inl ⟨by rfl, ?_⟩) (by assumption) ?_
            rotate_left
            · (intro w hSw; (try dsimp only at hSw); go_simp; (try with_reducible rfl))
            (try simp only [Act.put, List.setIfInBounds_toArray, List.set_cons_zero, List.set_cons_succ])
            refine wpAnyH_take (i := 21) (oi := { dst := some 53, op := _, type := _, pos := _, after := _, guard := _ }) (v := ?_) rfl (by kernel_rfl) (by kernel_rfl) (by kernel_rfl) (fun _ _ _ h => h) (Or.inl ⟨by rfl, ?_⟩) (by assumption) ?_
            rotate_left
            · (intro w hSw; (try dsimp only at hSw); go_simp; (try with_reducible rfl))
            (try simp only [Act.put, List.setIfInBounds_toArray, List.set_cons_zero, List.set_cons_succ])
            refine wpAnyH_take (i := 22) (oi := { dst := some 54, op := _, type := _, pos := _, after := _, guard := _ }) (v := ?_) rfl (by kernel_rfl) (by kernel_rfl) (by kernel_rfl) (fun _ _ _ h => h) (Or.inl ⟨by rfl, ?_⟩) (by assumption) ?_
            rotate_left
            · (intro w hSw; (try dsimp only at hSw); go_simp; (try with_reducible rfl))
            (try simp only [Act.put, List.setIfInBounds_toArray, List.set_cons_zero, List.set_cons_succ])
            refine wpAnyH_take (i := 23) (oi := { dst := some 31, op := _, type := _, pos := _, after := _, guard := _ }) (v := ?_) rfl (by kernel_rfl) (by kernel_rfl) (by kernel_rfl) (fun _ _ _ h => h) (Or.inl ⟨by rfl, ?_⟩) (by assumption) ?_
            rotate_left
            · (intro w hSw; (try dsimp only at hSw); go_simp; (try with_reducible rfl))
            (try simp only [Act.put, List.setIfInBounds_toArray, List.set_cons_zero, List.set_cons_succ])
            refine wpAnyH_done (by kernel_rfl) ?_ _
            go_wp2_with fail
            go_ret2
            exact ⟨rfl, R, ⟨⟨⟨some ⟨g, 0, none⟩, k + 1, vsc⟩, br, lg, mv⟩, (HO.out.ext (HW.out.trans hE)).more (fun i hi => .inl (hi.elim (fun h => h.1) (HO.out.rq i))) (fun b hb => .inr hb)⟩, Keeps.of (HW.out.trans hE), fun _ h => h, fun _ h => .inl h⟩
          · have Hpr := Lib.hid (Hok.out (by omega))
            refine wp_region_held_drew (S := (fun w' => w'.cell? ⟨p, 0, none⟩ = some (.slice (some ⟨g, 0, none⟩) (k + 1) vsc) ∧ w'.cell? ⟨g, k * 6, none⟩ = some (.int .i64 tl))) (by kernel_rfl) ?_ (fun hHeld => ?_)
            · (try dsimp only); exact ⟨HP0.out _ (HW.out.trans hE), HD0.out _ (HW.out.trans hE)⟩
            refine wpAnyH_take (i := 0) (oi := { dst := some 32, op := _, type := _, pos := _, after := _, guard := _ }) (v := ?_) rfl (by kernel_rfl) (by kernel_rfl) (by kernel_rfl) (fun _ _ _ h => h) (Or.inl ⟨by rfl, ?_⟩) (by assumption) ?_
            rotate_left
            · (intro w hSw; (try dsimp only at hSw); go_simp; (try with_reducible rfl))
            (try simp only [Act.put, List.setIfInBounds_toArray, List.set_cons_zero, List.set_cons_succ])
            refine wpAnyH_take (i := 1) (oi := { dst := some 33, op := _, type := _, pos := _, after := _, guard := _ }) (v := ?_) rfl (by kernel_rfl) (by kernel_rfl) (by kernel_rfl) (fun _ _ _ h => h) (Or.inl ⟨by rfl, ?_⟩) (by assumption) ?_
            rotate_left
            · (intro w hSw; (try dsimp only at hSw); go_simp; (try with_reducible rfl))
            (try simp only [Act.put, List.setIfInBounds_toArray, List.set_cons_zero, List.set_cons_succ])
            refine wpAnyH_take (i := 2) (oi := { dst := some 34, op := _, type := _, pos := _, after := _, guard := _ }) (v := ?_) rfl (by kernel_rfl) (by kernel_rfl) (by kernel_rfl) (fun _ _ _ h => h) (Or.inl ⟨by rfl, ?_⟩) (by assumption) ?_
            rotate_left
            · (intro w hSw; (try dsimp only at hSw); go_simp; (try with_reducible rfl))
            (try simp only [Act.put, List.setIfInBounds_toArray, List.set_cons_zero, List.set_cons_succ])
            refine wpAnyH_take (i := 3) (oi := { dst := some 35, op := _, type := _, pos := _, after := _, guard := _ }) (v := ?_) rfl (by kernel_rfl) (by kernel_rfl) (by kernel_rfl) (fun _ _ _ h => h) (Or.inl ⟨by rfl, ?_⟩) (by assumption) ?_
            rotate_left
            · (intro w hSw; (try dsimp only at hSw); go_simp; (try with_reducible rfl))
            (try simp only [Act.put, List.setIfInBounds_toArray, List.set_cons_zero, List.set_cons_succ])
            refine wpAnyH_take (i := 4) (oi := { dst := some 36, op := _, type := _, pos := _, after := _, guard := _ }) (v := ?_) rfl (by kernel_rfl) (by kernel_rfl) (by kernel_rfl) (fun _ _ _ h => h) (Or.inl ⟨by rfl, ?_⟩) (by assumption) ?_
            rotate_left
            · (intro w hSw; (try dsimp only at hSw); go_simp; (try with_reducible rfl))
            (try simp only [Act.put, List.setIfInBounds_toArray, List.set_cons_zero, List.set_cons_succ])
            refine wpAnyH_take (i := 5) (oi := { dst := some 37, op := _, type := _, pos := _, after := _, guard := _ }) (v := ?_) rfl (by kernel_rfl) (by kernel_rfl) (by kernel_rfl) (fun _ _ _ h => h) (Or.inl ⟨by rfl, ?_⟩) (by assumption) ?_
            rotate_left
            · (intro w hSw; (try dsimp only at hSw); go_simp; (try with_reducible rfl))
            (try simp only [Act.put, List.setIfInBounds_toArray, List.set_cons_zero, List.set_cons_succ])
            refine wpAnyH_take (i := 6) (oi := { dst := some 38, op := _, type := _, pos := _, after := _, guard := _ }) (v := ?_) rfl (by kernel_rfl) (by kernel_rfl) (by kernel_rfl) (fun _ _ _ h => h) (Or.inl ⟨by rfl, ?_⟩) (by assumption) ?_
            rotate_left
            · (intro w hSw; (try dsimp only at hSw); go_simp; (try with_reducible rfl))
            (try simp only [Act.put, List.setIfInBounds_toArray, List.set_cons_zero, List.set_cons_succ])
            refine wpAnyH_take (i := 7) (oi := { dst := some 39, op := _, type := _, pos := _, after := _, guard := _ }) (v := ?_) rfl (by kernel_rfl) (by kernel_rfl) (by kernel_rfl) (fun _ _ _ h => h) (Or.inl ⟨by rfl, ?_⟩) (by assumption) ?_
            rotate_left
            · (intro w hSw; (try dsimp only at hSw); go_simp; (try with_reducible rfl))
            (try simp only [Act.put, List.setIfInBounds_toArray, List.set_cons_zero, List.set_cons_succ])
            refine wpAnyH_take (i := 8) (oi := { dst := some 40, op := _, type := _, pos := _, after := _, guard := _ }) (v := ?_) rfl (by kernel_rfl) (by kernel_rfl) (by kernel_rfl) (fun _ _ _ h => h) (Or.inl ⟨by rfl, ?_⟩) (by assumption) ?_
            rotate_left
            · (intro w hSw; (try dsimp only at hSw); go_simp; (try with_reducible rfl))
            (try simp only [Act.put, List.setIfInBounds_toArray, List.set_cons_zero, List.set_cons_succ])
            refine wpAnyH_take (i := 9) (oi := { dst := some 41, op := _, type := _, pos := _, after := _, guard := _ }) (v := ?_) rfl (by kernel_rfl) (by kernel_rfl) (by kernel_rfl) (fun _ _ _ h => h) (Or.inl ⟨by rfl, ?_⟩) (by assumption) ?_
            rotate_left
            · (intro w hSw; (try dsimp only at hSw); go_simp; (try with_reducible rfl))
            (try simp only [Act.put, List.setIfInBounds_toArray, List.set_cons_zero, List.set_cons_succ])
            refine wpAnyH_take (i := 10) (oi := { dst := some 42, op := _, type := _, pos := _, after := _, guard := _ }) (v := ?_) rfl (by kernel_rfl) (by kernel_rfl) (by kernel_rfl) (fun _ _ _ h => h) (Or.inl ⟨by rfl, ?_⟩) (by assumption) ?_
            rotate_left
            · (intro w hSw; (try dsimp only at hSw); go_simp; (try with_reducible rfl))
            (try simp only [Act.put, List.setIfInBounds_toArray, List.set_cons_zero, List.set_cons_succ])
            refine wpAnyH_take (i := 11) (oi := { dst := some 43, op := _, type := _, pos := _, after := _, guard := _ }) (v := ?_) rfl (by kernel_rfl) (by kernel_rfl) (by kernel_rfl) (fun _ _ _ h => h) (Or.inl ⟨by rfl, ?_⟩) (by assumption) ?_
            rotate_left
            · (intro w hSw; (try dsimp only at hSw); go_simp; (try with_reducible rfl))
            (try simp only [Act.put, List.setIfInBounds_toArray, List.set_cons_zero, List.set_cons_succ])
            refine wpAnyH_take (i := 12) (oi := { dst := some 44, op := _, type := _, pos := _, after := _, guard := _ }) (v := ?_) rfl (by kernel_rfl) (by kernel_rfl) (by kernel_rfl) (fun _ _ _ h => h) (Or.inl ⟨by rfl, ?_⟩) (by assumption) ?_
            rotate_left
            · (intro w hSw; (try dsimp only at hSw); go_simp; (try with_reducible rfl))
            (try simp only [Act.put, List.setIfInBounds_toArray, List.set_cons_zero, List.set_cons_succ])
            refine wpAnyH_take (i := 13) (oi := { dst := some 45, op := _, type := _, pos := _, after := _, guard := _ }) (v := ?_) rfl (by kernel_rfl) (by kernel_rfl) (by kernel_rfl) (fun _ _ _ h => h) (Or.inl ⟨by rfl, ?_⟩) (by assumption) ?_
            rotate_left
            · (intro w hSw; (try dsimp only at hSw); go_simp; (try with_reducible rfl))
            (try simp only [Act.put, List.setIfInBounds_toArray, List.set_cons_zero, List.set_cons_succ])
            refine wpAnyH_take (i := 14) (oi := { dst := some 46, op := _, type := _, pos := _, after := _, guard := _ }) (v := ?_) rfl (by kernel_rfl) (by kernel_rfl) (by kernel_rfl) (fun _ _ _ h => h) (Or.inl ⟨by rfl, ?_⟩) (by assumption) ?_
            rotate_left
            · (intro w hSw; (try dsimp only at hSw); go_simp; (try with_reducible rfl))
            (try simp only [Act.put, List.setIfInBounds_toArray, List.set_cons_zero, List.set_cons_succ])
            refine wpAnyH_take (i := 15) (oi := { dst := some 47, op := _, type := _, pos := _, after := _, guard := _ }) (v := ?_) rfl (by kernel_rfl) (by kernel_rfl) (by kernel_rfl) (fun _ _ _ h => h) (Or.inl ⟨by rfl, ?_⟩) (by assumption) ?_
            rotate_left
            · (intro w hSw; (try dsimp only at hSw); go_simp; (try with_reducible rfl))
            (try simp only [Act.put, List.setIfInBounds_toArray, List.set_cons_zero, List.set_cons_succ])
            refine wpAnyH_take (i := 16) (oi := { dst := some 48, op := _, type := _, pos := _, after := _, guard := _ }) (v := ?_) rfl (by kernel_rfl) (by kernel_rfl) (by kernel_rfl) (fun _ _ _ h => h) (Or.inl ⟨by rfl, ?_⟩) (by assumption) ?_
            rotate_left
            · (intro w hSw; (try dsimp only at hSw); go_simp; (try with_reducible rfl))
            (try simp only [Act.put, List.setIfInBounds_toArray, List.set_cons_zero, List.set_cons_succ])
            refine wpAnyH_take (i := 17) (oi := { dst := some 49, op := _, type := _, pos := _, after := _, guard := _ }) (v := ?_) rfl (by kernel_rfl) (by kernel_rfl) (by kernel_rfl) (fun _ _ _ h => h) (Or.inl ⟨by rfl, ?_⟩) (by assumption) ?_
            rotate_left
            · (intro w hSw; (try dsimp only at hSw); go_simp; (try with_reducible rfl))
            (try simp only [Act.put, List.setIfInBounds_toArray, List.set_cons_zero, List.set_cons_succ])
            refine wpAnyH_take (i := 18) (oi := { dst := some 50, op := _, type := _, pos := _, after := _, guard := _ }) (v := ?_) rfl (by kernel_rfl) (by kernel_rfl) (by kernel_rfl) (fun _ _ _ h => h) (Or.inl ⟨by rfl, ?_⟩) (by assumption) ?_
            rotate_left
            · (intro w hSw; (try dsimp only at hSw); go_simp; (try with_reducible rfl))
            (try simp only [Act.put, List.setIfInBounds_toArray, List.set_cons_zero, List.set_cons_succ])
            refine wpAnyH_take (i := 19) (oi := { dst := some 51, op := _, type := _, pos := _, after := _, guard := _ }) (v := ?_) rfl (by kernel_rfl) (by kernel_rfl) (by kernel_rfl) (fun _ _ _ h => h) (Or.inl ⟨by rfl, ?_⟩) (by assumption) ?_
            rotate_left
            · (intro w hSw; (try dsimp only at hSw); go_simp; (try with_reducible rfl))
            (try simp only [Act.put, List.setIfInBounds_toArray, List.set_cons_zero, List.set_cons_succ])
            refine wpAnyH_take (i := 20) (oi := { dst := some 52, op := _, type := _, pos := _, after := _, guard := _ }) (v := ?_) rfl (by kernel_rfl) (by kernel_rfl) (by kernel_rfl) (fun _ _ _ h => h) (Or.inl ⟨by rfl, ?_⟩) (by assumption) ?_
            rotate_left
            · (intro w hSw; (try dsimp only at hSw); go_simp; (try with_reducible rfl))
            (try simp only [Act.put, List.setIfInBounds_toArray, List.set_cons_zero, List.set_cons_succ])
            refine wpAnyH_take (i := 21) (oi := { dst := some 53, op := _, type := _, pos := _, after := _, guard := _ }) (v := ?_) rfl (by kernel_rfl) (by kernel_rfl) (by kernel_rfl) (fun _ _ _ h => h) (Or.inl ⟨by rfl, ?_⟩) (by assumption) ?_
            rotate_left
            · (intro w hSw; (try dsimp only at hSw); go_simp; (try with_reducible rfl))
            (try simp only [Act.put, List.setIfInBounds_toArray, List.set_cons_zero, List.set_cons_succ])
            refine wpAnyH_take (i := 22) (oi := { dst := some 54, op := _, type := _, pos := _, after := _, guard := _ }) (v := ?_) rfl (by kernel_rfl) (by kernel_rfl) (by kernel_rfl) (fun _ _ _ h => h) (Or.inl ⟨by rfl, ?_⟩) (by assumption) ?_
            rotate_left
            · (intro w hSw; (try dsimp only at hSw); go_simp; (try with_reducible rfl))
            (try simp only [Act.put, List.setIfInBounds_toArray, List.set_cons_zero, List.set_cons_succ])
            refine wpAnyH_take (i := 23) (oi := { dst := some 31, op := _, type := _, pos := _, after := _, guard := _ }) (v := ?_) rfl (by kernel_rfl) (by kernel_rfl) (by kernel_rfl) (fun _ _ _ h => h) (Or.inl ⟨by rfl, ?_⟩) (by assumption) ?_
            rotate_left
            · (intro w hSw; (try dsimp only at hSw); go_simp; (try with_reducible rfl))
            (try simp only [Act.put, List.setIfInBounds_toArray, List.set_cons_zero, List.set_cons_succ])
            refine wpAnyH_done (by kernel_rfl) ?_ _
            go_wp2_with fail
            replace hE := hE.drew
            refine wp_region_U (S := (fun w' => w'.cell? ⟨p, 0, none⟩ = some (.slice (some ⟨g, 0, none⟩) (k + 1) vsc) ∧ w'.cell? ⟨w.heap.size, 0, none⟩ = some (.string addr) ∧ w'.cell? ⟨w.heap.size, 1, none⟩ = some (.int .i64 status) ∧ w'.cell? ⟨w.heap.size, 2, none⟩ = some (.slice fA fn fc) ∧ w'.cell? ⟨w.heap.size, 3, none⟩ = some (.slice bA bn bc) ∧ w'.cell? ⟨w.heap.size, 4, none⟩ = some (.slice vA vn vc))) 10 (by kernel_rfl) ?_ (fun hHeld => ?_)
            · (try dsimp only); exact ⟨HP0.out _ (HW.out.trans hE), HS.out _ hE⟩
            refine wpAnyU_takeW (i := 0) (oi := { dst := some 56, op := _, type := _, pos := _, after := _, guard := _ }) (v := ?_) (by kernel_rfl) rfl (by kernel_rfl) (by kernel_rfl) (by kernel_rfl) (fun _ _ _ h => h) (Or.inl ⟨by rfl, ?_⟩) (by assumption) ?_
            rotate_left
            · (intro w hSw; (try dsimp only at hSw); go_simp; (try with_reducible rfl))
            (try simp only [Act.put, List.setIfInBounds_toArray, List.set_cons_zero, List.set_cons_succ])
            refine wpAnyU_takeW (i := 1) (oi := { dst := some 57, op := _, type := _, pos := _, after := _, guard := _ }) (v := ?_) (by kernel_rfl) rfl (by kernel_rfl) (by kernel_rfl) (by kernel_rfl) (fun _ _ _ h => h) (Or.inl ⟨by rfl, ?_⟩) (by assumption) ?_
            rotate_left
            · (intro w hSw; (try dsimp only at hSw); go_simp; (try with_reducible rfl))
            (try simp only [Act.put, List.setIfInBounds_toArray, List.set_cons_zero, List.set_cons_succ])
            refine wpAnyU_takeW (i := 2) (oi := { dst := some 58, op := _, type := _, pos := _, after := _, guard := _ }) (v := ?_) (by kernel_rfl) rfl (by kernel_rfl) (by kernel_rfl) (by kernel_rfl) (fun _ _ _ h => h) (Or.inl ⟨by rfl, ?_⟩) (by assumption) ?_
            rotate_left
            · (intro w hSw; (try dsimp only at hSw); go_simp; (try with_reducible rfl))
            (try simp only [Act.put, List.setIfInBounds_toArray, List.set_cons_zero, List.set_cons_succ])
            refine wpAnyU_takeW (i := 3) (oi := { dst := some 59, op := _, type := _, pos := _, after := _, guard := _ }) (v := ?_) (by kernel_rfl) rfl (by kernel_rfl) (by kernel_rfl) (by kernel_rfl) (fun _ _ _ h => h) (Or.inl ⟨by rfl, ?_⟩) (by assumption) ?_
            rotate_left
            · (intro w hSw; (try dsimp only at hSw); go_simp; (try with_reducible rfl))
            (try simp only [Act.put, List.setIfInBounds_toArray, List.set_cons_zero, List.set_cons_succ])
            refine wpAnyU_take (i := 4) (oi := { dst := some 60, op := _, type := _, pos := _, after := _, guard := _ }) (v := ?_) [10, 11, 12, 13] (by kernel_rfl) (by kernel_rfl) (by kernel_rfl) (by kernel_rfl) rfl (by kernel_rfl) (by kernel_rfl) (by kernel_rfl) (fun _ _ _ h => h) (Or.inl ⟨by rfl, ?_⟩) (by assumption) ?_
            rotate_left
            · (intro w hSw; (try dsimp only at hSw); go_simp; (try with_reducible rfl))
            (try simp only [Act.put, List.setIfInBounds_toArray, List.set_cons_zero, List.set_cons_succ])
            refine wpAnyU_takeW (i := 5) (oi := { dst := some 61, op := _, type := _, pos := _, after := _, guard := _ }) (v := ?_) (by kernel_rfl) rfl (by kernel_rfl) (by kernel_rfl) (by kernel_rfl) (fun _ _ _ h => h) (Or.inl ⟨by rfl, ?_⟩) (by assumption) ?_
            rotate_left
            · (intro w hSw; (try dsimp only at hSw); go_simp; (try with_reducible rfl))
            (try simp only [Act.put, List.setIfInBounds_toArray, List.set_cons_zero, List.set_cons_succ])
            refine wpAnyU_take (i := 6) (oi := { dst := some 62, op := _, type := _, pos := _, after := _, guard := _ }) (v := ?_) [7, 8, 9, 10, 11, 12, 13] (by kernel_rfl) (by kernel_rfl) (by kernel_rfl) (by kernel_rfl) rfl (by kernel_rfl) (by kernel_rfl) (by kernel_rfl) (fun _ _ _ h => h) (Or.inl ⟨by rfl, ?_⟩) (by assumption) ?_
            rotate_left
            · (intro w hSw; (try dsimp only at hSw); go_simp; (try with_reducible rfl))
            (try simp only [Act.put, List.setIfInBounds_toArray, List.set_cons_zero, List.set_cons_succ])
            refine wpAnyU_ready (rs := [7]) (by kernel_rfl) (by simp) ?_
            refine AllReadyU.cons (o := { dst := some 63, op := _, type := _, pos := _, after := _, guard := _ }) rfl (fun K hK => ?_) AllReadyU.nil
            go_simp
            have HEc := Lib.hid hE; refine (HC.out _ (HW.out.trans hE)).mono ?_; rintro e w5 ⟨⟨addr2, status2, f2, body2, vars2, ⟨fA2, fn2, fc2⟩, ⟨bA2, bn2, bc2⟩, ⟨vA2, vn2, vc2⟩⟩, rfl, hver, hAt, hb5⟩; have Hver := Lib.hid hver; have HAt := Lib.hid hAt; replace hE := hE.trans hb5; have HE5 := Lib.hid hE; clear hver hAt hb5; (simp only [MV.cells, Sl.v])
            try go_wp2_with fail
            refine hK.out _ _ ?_ (fun hHeld => ?_)
            · (try dsimp only); exact ⟨HP0.out _ (HW.out.trans hE), HS.out _ hE⟩
            clear hK K
            (try simp only [Act.put, List.setIfInBounds_toArray, List.set_cons_zero, List.set_cons_succ])
            refine wpAnyU_takeW (i := 8) (oi := { dst := some 64, op := _, type := _, pos := _, after := _, guard := _ }) (v := ?_) (by kernel_rfl) rfl (by kernel_rfl) (by kernel_rfl) (by kernel_rfl) (fun _ _ _ h => h) (Or.inl ⟨by rfl, ?_⟩) (by assumption) ?_
            rotate_left
            · (intro w hSw; (try dsimp only at hSw); go_simp; (try with_reducible rfl))
            (try simp only [Act.put, List.setIfInBounds_toArray, List.set_cons_zero, List.set_cons_succ])
            refine wpAnyU_ready (rs := [9]) (by kernel_rfl) (by simp) ?_
            refine AllReadyU.cons (o := { dst := some 65, op := _, type := _, pos := _, after := _, guard := _ }) rfl (fun K hK => ?_) AllReadyU.nil
            go_simp
            replace hE := hE.alloc (.cells #[.int .i64 ct, .string addr2, .int .i64 status2, .slice fA2 fn2 fc2, .slice bA2 bn2 bc2, .slice vA2 vn2 vc2] 103); have HEa := Lib.hid hE
            try go_wp2_with fail
            refine hK.out _ _ ?_ (fun hHeld => ?_)
            · (try dsimp only); exact ⟨HP0.out _ (HW.out.trans hE), HS.out _ hE⟩
            clear hK K
            (try simp only [Act.put, List.setIfInBounds_toArray, List.set_cons_zero, List.set_cons_succ])
            refine wpAnyU_ready (rs := [10]) (by kernel_rfl) (by simp) ?_
            refine AllReadyU.stop (o := { dst := some 66, op := _, type := _, pos := _, after := _, guard := _ }) rfl (by kernel_rfl) (fun K hK => ?_) AllReadyU.nil
            refine step_appO _ rfl (.tmp 60) (.tmp 65) 97 rfl 103 _ 6 104 Tryz.underlying97 infoPub (by simp [Value.cells]) (by decide) _ _ _ rfl (own_ext HO.out.vs (HW.out.trans hE)) _ 1 1 (pubC (ct, ⟨addr2, status2, f2, body2, vars2, ⟨fA2, fn2, fc2⟩, ⟨bA2, bn2, bc2⟩, ⟨vA2, vn2, vc2⟩⟩)) rfl (Rd.lit _ _ _ rfl 6 1 rfl) (by have := pubC_one [(ct, ⟨addr2, status2, f2, body2, vars2, ⟨fA2, fn2, fc2⟩, ⟨bA2, bn2, bc2⟩, ⟨vA2, vn2, vc2⟩⟩)]; simpa using this) (by rw [Hn.out]; omega) (by decide) ?_; intro A6 c6 w6 hown6 hle6 hg6 hn6
            refine hK.out _ _ ?_ (fun hHeld => ?_)
            · (try dsimp only); (try trivial)
            clear hK K
            (try simp only [Act.put, List.setIfInBounds_toArray, List.set_cons_zero, List.set_cons_succ])
            refine wpAnyH_take (i := 11) (oi := { dst := some 67, op := _, type := _, pos := _, after := _, guard := _ }) (v := ?_) rfl (by kernel_rfl) (by kernel_rfl) (by kernel_rfl) (fun _ _ _ h => h) (Or.inl ⟨by rfl, ?_⟩) (by assumption) ?_
            rotate_left
            · (intro w hSw; (try dsimp only at hSw); go_simp; (try with_reducible rfl))
            (try simp only [Act.put, List.setIfInBounds_toArray, List.set_cons_zero, List.set_cons_succ])
            refine wpAnyH_take (i := 12) (oi := { dst := some 68, op := _, type := _, pos := _, after := _, guard := _ }) (v := ?_) rfl (by kernel_rfl) (by kernel_rfl) (by kernel_rfl) (fun _ _ _ h => h) (Or.inl ⟨by rfl, ?_⟩) (by assumption) ?_
            rotate_left
            · (intro w hSw; (try dsimp only at hSw); go_simp; (try with_reducible rfl))
            (try simp only [Act.put, List.setIfInBounds_toArray, List.set_cons_zero, List.set_cons_succ])
            refine wpAnyH_ready (rs := [13]) (by kernel_rfl) (by simp) ?_
            refine AllReadyH.cons (o := { dst := none, op := _, type := _, pos := _, after := _, guard := _ }) rfl (fun K hK => ?_) AllReadyH.nil
            have hOx := HO.out.ext (HW.out.trans hE); have hPb := hOx.blk.grown hg6 (Ne.symm (own_blk hOx.vs hOx.blk (by decide))); have kp := hPb.cell 0; have fp := hPb.frozen 0; clear hOx hPb; (simp only [Sl.v] at kp)
            go_simp
            try go_wp2_with fail
            refine hK.out _ _ ?_ (fun hHeld => ?_)
            · (try dsimp only); (try trivial)
            clear hK K
            (try simp only [Act.put, List.setIfInBounds_toArray, List.set_cons_zero, List.set_cons_succ])
            refine wpAnyH_done (by kernel_rfl) ?_ _
            clear kp fp
            have hOa := (HO.out.ext (HW.out.trans hE)).more (Q' := fun i => Q i ∧ i < w.heap.size) (fun i hi => .inl hi.1) (fun b hb => ⟨HO.out.rq b hb, HO.out.low b hb⟩)
            have hwe := (HW.out.trans hE).size
            obtain ⟨hO2, hK2⟩ := hOa.addV (x := (ct, ⟨addr2, status2, f2, body2, vars2, ⟨fA2, fn2, fc2⟩, ⟨bA2, bn2, bc2⟩, ⟨vA2, vn2, vc2⟩⟩)) hown6 hg6 hn6 ((HAt.out.sub (fun i hi => Nat.lt_of_lt_of_le hi.2 (HW.out.trans HEc.out).size)).ext ((Ext.refl _).alloc _)) (by rw [Hn.out]; omega) ⟨by rw [Hver.out]; exact HBd.out (by trivial) (by trivial), Hct.out⟩
            have HO2 := Lib.hid hO2; have HK2 := Lib.hid ((Keeps.of (HW.out.trans hE)).trans hK2)
            have q0 : (w6.setCell ⟨p, 0, none⟩ (.slice A6 (o.vs.length + 1) c6)).cell? ⟨p, 0, none⟩ = some (.slice A6 (o.vs.length + 1) c6) := hO2.blk.cell 0
            have Hn6 := Lib.hid hn6
            clear hO2 hK2 hOa hn6 hown6 hg6
            generalize (w6.setCell ⟨p, 0, none⟩ (.slice A6 (o.vs.length + 1) c6)) = wF at *
            obtain rfl := Hpr.out
            go_wp2_with fail
            go_ret2
            refine ⟨by (try simp only [Hn.out]); rfl, Rplus R (.slice A6 (o.vs.length + 1) c6), ⟨⟨⟨A6, o.vs.length + 1, c6⟩, br, lg, mv ++ [(ct, ⟨addr2, status2, f2, body2, vars2, ⟨fA2, fn2, fc2⟩, ⟨bA2, bn2, bc2⟩, ⟨vA2, vn2, vc2⟩⟩)]⟩, ?_⟩, HK2.out, fun _ h => .inl h, fun i hi => ?_⟩
            · have h9 := HO2.out.more (Q' := fun i => (Q i ∧ i < w.heap.size) ∨ Rplus R (.slice A6 (o.vs.length + 1) c6) i) (fun i hi => .inl (hi.elim (fun h => .inl ⟨h, Nat.lt_of_lt_of_le h.2 hwe⟩) (fun h => HO2.out.rq i h))) (fun b hb => .inr hb)
              rw [Hver.out] at h9
              exact h9
            · rcases hi with hi | hi
              · exact .inl hi
              · rcases Hn6.out with e | e
                · rw [e] at hi; exact .inl (HO.out.rv i hi)
                · rw [e] at hi; injection hi with hi; exact .inr (by omega)
end Go.Proofs.YtmckbcbdnckngaaGreatDoor

namespace Go.Proofs.YtmckbcbdnckngaaGreatDoor
open Go.RowKit

def hitS (p : Int × Ver) (text : ByteArray) (t : Int) : Bool := p.2.addr == text && decide (p.1 ≤ t)
theorem fnd_cons (p : Int × Ver) (l : List (Int × Ver)) (text : ByteArray) (t : Int) (h : findS l text t = 0) : findS (p :: l) text t = if hitS p text t then 1 else 0 := by
  show (if findS l text t = 0 then _ else _) = _
  rw [if_pos h]; rfl
theorem fnd_step {vs : List (Int × Ver)} {k : Nat} (hk : k < vs.length) {text : ByteArray} {t : Int} (h : findS (vs.drop (k + 1)) text t = 0) (hq : hitS vs[k] text t = false) : findS (vs.drop k) text t = 0 := by
  rw [List.drop_eq_getElem_cons hk, fnd_cons _ _ _ _ h, hq]; rfl
theorem fnd_up (l : List (Int × Ver)) (p : Int × Ver) (text : ByteArray) (t : Int) {j : Nat} (h : findS l text t = j + 1) : findS (p :: l) text t = j + 2 := by
  show (if findS l text t = 0 then _ else _) = _
  rw [if_neg (by omega), h]
theorem fnd_hit : ∀ {vs : List (Int × Ver)} {k : Nat} (hk : k < vs.length) {text : ByteArray} {t : Int} (_ : findS (vs.drop (k + 1)) text t = 0) (_ : hitS vs[k] text t = true), findS vs text t = k + 1
  | p :: l, 0, _, text, t, h, hq => by rw [fnd_cons p l text t (by simpa using h)]; rw [show hitS p text t = true from hq]; rfl
  | p :: l, k + 1, hk, text, t, h, hq => fnd_up l p text t (fnd_hit (k := k) (by simpa using hk) (by simpa using h) (by simpa using hq))
theorem OrgP.vs_at {w : World} {p : Nat} {R Q : Nat → Prop} {o : Org} {M : OM} (h : OrgP w p R Q o M) {i : Nat} (hi : i < o.vs.length) (hm : i < M.mv.length) : o.vs[i] = (M.mv[i].1, M.mv[i].2.ver) := by
  have h1 : (M.mv.map (fun x => (x.1, x.2.ver)))[i]? = o.vs[i]? := congrArg (·[i]?) h.ver
  rw [List.getElem?_map, List.getElem?_eq_getElem hm, List.getElem?_eq_getElem hi] at h1
  simp only [Option.map_some, Option.some.injEq] at h1
  exact h1.symm
set_option maxHeartbeats 8000000 in
set_option maxRecDepth 100000 in
theorem or_find (Q R : Nat → Prop) (p : Nat) (o : Org) (M : OM) (text : ByteArray) (t : Int) (w : World) (hO : OrgP w p R Q o M) :
    Calls Tryz.prog 66 #[.pointer (some ⟨p, 0, none⟩), .string text, .int .i64 t] w fun e w' => e = .returned (.int .i64 (findS o.vs text t : Nat)) ∧ Ext w w' := by
  have HO := Lib.hid hO
  obtain ⟨hn1, hn2⟩ := hO.vsn
  have hfew := hO.few
  obtain ⟨⟨vsA, vsn, vsc⟩, br, lg, mv⟩ := M
  obtain ⟨n, hn⟩ : ∃ n, o.vs.length = n := ⟨_, rfl⟩
  have hvn : n = vsn := (hn1.trans hn).symm
  subst hvn
  have HP0 := Lib.hid (fun w' (h : Ext w w') => (show w'.cell? ⟨p, 0, none⟩ = some (.slice vsA n vsc) from (HO.out.blk.ext h).cell 0))
  have Hhit := Lib.hid (fun k hk => @fnd_hit o.vs k hk text t)
  have Hstep := Lib.hid (fun k hk => @fnd_step o.vs k hk text t)
  have H0 := Lib.hid (show findS (o.vs.drop o.vs.length) text t = 0 by rw [List.drop_of_length_le (Nat.le_refl _)]; rfl)
  have Hn := Lib.hid hn; have Hn2 := Lib.hid hn2
  rw [hn] at hfew
  obtain ⟨FV, hFV⟩ : ∃ FV : Nat, findS o.vs text t = FV := ⟨_, rfl⟩
  have HFV := Lib.hid hFV
  rw [hFV]
  rw [hFV] at Hhit
  clear hO hn1 hn2 hn hFV
  have p0 := HP0.out w (Ext.refl w)
  have hwn : IntKind.i64.wrap (-1) = -1 := by decide
  have START : ∃ s : Int, IntKind.i64.wrap ((n : Int) - 1) = s ∧ (n = 0 ∧ s = -1 ∨ ∃ j : Nat, n = j + 1 ∧ s = j) := by
    rcases Nat.eq_zero_or_pos n with h | h
    · exact ⟨-1, by rw [h]; decide, .inl ⟨h, rfl⟩⟩
    · exact ⟨((n - 1 : Nat) : Int), by rw [IntWalk.i64_in _ (by omega)]; omega, .inr ⟨n - 1, by omega, rfl⟩⟩
  obtain ⟨s, hs, hs2⟩ := START
  have Hs2 := Lib.hid hs2
  clear hs2
  go_enter Tryz.func66, Tryz.ntmps66
  go_wp2_with fail
  go_loopw [7] (fun i wr => ∃ k : Nat, k ≤ n ∧ (k = 0 ∧ i = .int .i64 (-1) ∨ ∃ j : Nat, k = j + 1 ∧ i = .int .i64 (j : Nat)) ∧ findS (o.vs.drop k) text t = 0 ∧ Ext w wr) (fun i _ => (intOf i + 1).toNat)
  case atStart =>
    refine ⟨n, Nat.le_refl _, ?_, by have := H0.out; rw [Hn.out] at this; exact this, Ext.refl _⟩
    rcases Hs2.out with ⟨h1, rfl⟩ | ⟨j, h1, rfl⟩
    · exact .inl ⟨h1, rfl⟩
    · exact .inr ⟨j, h1, rfl⟩
  case round =>
    obtain ⟨k, hk, hi, hf, hbr⟩ := hrel
    rcases hi with ⟨rfl, rfl⟩ | ⟨j, rfl, rfl⟩
    · go_wp2_with fail
      go_ret
      exact ⟨by rw [← HFV.out, show findS o.vs text t = 0 from hf]; rfl, hbr⟩
    · have hjv : j < o.vs.length := by have := Hn.out; omega
      have hjm : j < mv.length := by have h1 : mv.length = o.vs.length := Hn2.out; omega
      obtain ⟨g, hA, c0, c1, c2, c3, c4, c5⟩ := (HO.out.ext hbr).at_ hjm
      have hvj := HO.out.vs_at hjv hjm
      simp only at hA c0 c1 c2 c3 c4 c5 hvj
      have Hh := Lib.hid (Hhit.out j hjv hf); have Hst := Lib.hid (Hstep.out j hjv hf)
      rw [hvj] at Hh Hst
      have p0 := HP0.out _ hbr
      clear hvj hf hjv
      generalize mv[j] = x at *
      obtain ⟨at_, addr, status, f, body, vars, ⟨fA, fn, fc⟩, ⟨bA, bn, bc⟩, ⟨vA, vn, vc⟩⟩ := x
      simp only [Sl.v, MV.ver, hitS] at *
      subst hA
      clear hjm
      have HB := Lib.hid (Blk.new wr 103 #[.int .i64 at_, .string addr, .int .i64 status, .slice fA fn fc, .slice bA bn bc, .slice vA vn vc])
      have x0 : (wr.alloc (.cells #[.int .i64 at_, .string addr, .int .i64 status, .slice fA fn fc, .slice bA bn bc, .slice vA vn vc] 103)).cell? ⟨wr.heap.size, 0, none⟩ = some (.int .i64 at_) := HB.out.cell 0
      have x1 : (wr.alloc (.cells #[.int .i64 at_, .string addr, .int .i64 status, .slice fA fn fc, .slice bA bn bc, .slice vA vn vc] 103)).cell? ⟨wr.heap.size, 1, none⟩ = some (.string addr) := HB.out.cell 1
      have hE := hbr.alloc (.cells #[.int .i64 at_, .string addr, .int .i64 status, .slice fA fn fc, .slice bA bn bc, .slice vA vn vc] 103)
      have hjn : (j : Int) < n := by omega
      have hwj : IntKind.i64.wrap (j : Int) = (j : Int) := IntWalk.i64_in _ (by omega)
      have hw1 : IntKind.i64.wrap ((j : Int) + 1) = (j : Int) + 1 := IntWalk.i64_in _ (by omega)
      have NEXT : ∃ s : Int, IntKind.i64.wrap ((j : Int) - 1) = s ∧ (j = 0 ∧ s = -1 ∨ ∃ i : Nat, j = i + 1 ∧ s = i) := by
        rcases Nat.eq_zero_or_pos j with h | h
        · exact ⟨-1, by rw [h]; decide, .inl ⟨h, rfl⟩⟩
        · exact ⟨((j - 1 : Nat) : Int), by rw [IntWalk.i64_in _ (by omega)]; omega, .inr ⟨j - 1, by omega, rfl⟩⟩
      obtain ⟨s2, hs2, hs3⟩ := NEXT
      have Hs3 := Lib.hid hs3
      clear hs3
      rw [beqB] at Hh Hst
      by_cases ha : addr = text
      · have hq : (addr.toList == text.toList) = true := eqS_iff.2 ha
        by_cases ht : at_ ≤ t
        · have HV := Lib.hid (Hh.out (by simp [ha, ht]))
          clear ha Hh Hst
          go_wp2_with fail
          go_ret
          exact ⟨by rw [HV.out]; rfl, hE⟩
        · have HV := Lib.hid (Hst.out (by simp [ht]))
          clear ha Hh Hst
          go_wp2_with fail
          first | go_roundw | refine ⟨?rel, ?measure⟩
          case rel =>
            refine ⟨j, by omega, ?_, HV.out, hE⟩
            rcases Hs3.out with ⟨h1, rfl⟩ | ⟨i, h1, rfl⟩
            · exact .inl ⟨h1, rfl⟩
            · exact .inr ⟨i, h1, rfl⟩
          case measure => rcases Hs3.out with ⟨h1, rfl⟩ | ⟨i, h1, rfl⟩ <;> simp [intOf] <;> omega
      · have hq : (addr.toList == text.toList) = false := Bool.eq_false_iff.2 (fun e => ha (eqS_iff.1 e))
        have HV := Lib.hid (Hst.out (by simp [ha]))
        clear ha Hh Hst
        go_wp2_with fail
        first | go_roundw | refine ⟨?rel, ?measure⟩
        case rel =>
          refine ⟨j, by omega, ?_, HV.out, hE⟩
          rcases Hs3.out with ⟨h1, rfl⟩ | ⟨i, h1, rfl⟩
          · exact .inl ⟨h1, rfl⟩
          · exact .inr ⟨i, h1, rfl⟩
        case measure => rcases Hs3.out with ⟨h1, rfl⟩ | ⟨i, h1, rfl⟩ <;> simp [intOf] <;> omega

set_option maxHeartbeats 4000000 in
theorem or_brief (w : World) : Calls Tryz.prog 67 #[] w fun e w' => ∃ s : Sl, e = .returned s.v ∧ s.n = 1 ∧ RS (fun i => i < w.heap.size) w' 2 s (fldCells brief) ∧ Ext w w' := by
  go_enter Tryz.func67, Tryz.ntmps67
  go_wp2_with fail
  go_ret
  refine ⟨⟨some ⟨w.heap.size, 0, none⟩, 1, 1⟩, rfl, rfl, ⟨Rd.lit w #[.string ⟨#[99, 97, 99, 104, 101, 45, 99, 111, 110, 116, 114, 111, 108]⟩, .string ⟨#[109, 97, 120, 45, 97, 103, 101, 61, 49]⟩] 51 rfl 2 1 rfl, fun _ a ha hb => ?_, Nat.le_refl _⟩, (Ext.refl w).alloc _⟩
  simp only [Option.some.injEq] at ha
  subst ha
  simp at hb

theorem kq (c x : ByteArray) : (c == x) = (x.toList == c.toList) := by
  rw [beqB, Bool.eq_iff_iff, decide_eq_true_eq, eqS_iff]
  exact ⟨fun h => h.symm, fun h => h.symm⟩
theorem kpt_yes {fs : List Fd} {k : Nat} (h : k < fs.length) (hy : (keptN.any (· == fs[k].1)) = true) : kptS (fs.take (k + 1)) = kptS (fs.take k) ++ [fs[k]] := by
  unfold kptS; rw [take_step fs k h, List.filter_append, List.filter_cons, if_pos hy]; rfl
theorem kpt_no {fs : List Fd} {k : Nat} (h : k < fs.length) (hy : (keptN.any (· == fs[k].1)) = false) : kptS (fs.take (k + 1)) = kptS (fs.take k) := by
  unfold kptS; rw [take_step fs k h, List.filter_append, List.filter_cons, if_neg (by simp [hy])]; simp
theorem kpt_len (fs : List Fd) (k : Nat) : (kptS (fs.take k)).length ≤ k := by
  unfold kptS
  exact Nat.le_trans (List.length_filter_le _ _) (by rw [List.length_take]; omega)
theorem kept_q (x : ByteArray) : keptN.any (· == x) = ((x.toList == [99, 97, 99, 104, 101, 45, 99, 111, 110, 116, 114, 111, 108]) || (x.toList == [101, 116, 97, 103]) || (x.toList == [101, 120, 112, 105, 114, 101, 115]) || (x.toList == [108, 97, 115, 116, 45, 109, 111, 100, 105, 102, 105, 101, 100]) || (x.toList == [115, 117, 114, 114, 111, 103, 97, 116, 101, 45, 107, 101, 121]) || (x.toList == [118, 97, 114, 121])) := by
  unfold keptN
  simp only [List.any_cons, List.any_nil, Bool.or_false, kq]
  rw [show x_cc.toList = [99, 97, 99, 104, 101, 45, 99, 111, 110, 116, 114, 111, 108] by rw [ByteArray.toList_eq]; rfl, show x_et.toList = [101, 116, 97, 103] by rw [ByteArray.toList_eq]; rfl, show x_ex.toList = [101, 120, 112, 105, 114, 101, 115] by rw [ByteArray.toList_eq]; rfl, show x_lm.toList = [108, 97, 115, 116, 45, 109, 111, 100, 105, 102, 105, 101, 100] by rw [ByteArray.toList_eq]; rfl, show x_sk.toList = [115, 117, 114, 114, 111, 103, 97, 116, 101, 45, 107, 101, 121] by rw [ByteArray.toList_eq]; rfl, show x_va.toList = [118, 97, 114, 121] by rw [ByteArray.toList_eq]; rfl]
  simp only [Bool.or_assoc]
set_option maxHeartbeats 16000000 in
set_option maxRecDepth 100000 in
theorem or_kept (A : Option Addr) (n c : Nat) (fs : List Fd) (w : World) (hf : RdF w A n fs) (hn : n ≤ 1073741824) :
    Calls Tryz.prog 109 #[.slice A n c] w fun e w' => ∃ s : Sl, e = .returned s.v ∧ RS (fun i => i < w.heap.size) w' 2 s (fldCells (kptS fs)) ∧ Ext w w' := by
  have hl := hf.lenF
  have Hl := Lib.hid hl; clear hl
  go_enter Tryz.func109, Tryz.ntmps109
  go_wp2_with fail
  go_loopw [3, 8] (fun v i wr => ∃ k m A' c', k ≤ n ∧ i = .int .i64 (k : Nat) ∧ v = .slice A' m c' ∧ wr.ownsRow w.heap.size 51 2 (.slice A' m c') m (fldCells (kptS (fs.take k))) ∧ m ≤ c' ∧ m ≤ k ∧ Ext w wr) (fun _ i _ => n - (intOf i).toNat)
  case atStart => exact ⟨0, 0, none, 0, Nat.zero_le _, rfl, rfl, World.ownsRow_nil _ _ _ _, Nat.le_refl _, Nat.le_refl _, Ext.refl _⟩
  case round =>
    obtain ⟨k, m, A', c', hk, rfl, rfl, hown, hmc, hmk, hbr⟩ := hrel
    by_cases hlt : k < n
    · have hlt' : k < fs.length := by have := Hl.out; omega
      obtain ⟨b, o, rfl, hc0, hc1⟩ := (hf.ext hbr).atF hlt'
      have Hy := Lib.hid (fun h => kpt_yes hlt' h); have Hno := Lib.hid (fun h => kpt_no hlt' h)
      rw [kept_q] at Hy Hno
      generalize hx : fs[k] = x at *
      obtain ⟨nm, vl⟩ := x
      simp only at hc0 hc1
      have HB := Lib.hid (Blk.new wr 51 #[.string nm, .string vl])
      have x0 : (wr.alloc (.cells #[.string nm, .string vl] 51)).cell? ⟨wr.heap.size, 0, none⟩ = some (.string nm) := HB.out.cell 0
      have x1 : (wr.alloc (.cells #[.string nm, .string vl] 51)).cell? ⟨wr.heap.size, 1, none⟩ = some (.string vl) := HB.out.cell 1
      have hE := hbr.alloc (.cells #[.string nm, .string vl] 51)
      have hown2 := hown.alloc (.cells #[.string nm, .string vl] 51)
      clear hx
      cases q0 : (nm.toList == [99, 97, 99, 104, 101, 45, 99, 111, 110, 116, 114, 111, 108])
      rotate_left
      · have Hs := Lib.hid (Hy.out (by simp [q0]))
        clear Hy Hno
        go_wp2_with (at_builtin; refine wpList_app _ rfl _ _ 33 rfl w 51 _ 2 32 Tryz.underlying33 info_cln_F (by simp [Value.cells]) (by decide) _ _ _ rfl (hown2.alloc _) _ 1 1 (fldCells [(nm, vl)]) rfl (Rd.two _ _ _ _ (by simp)) (fldCells_one [(nm, vl)]) (hE.alloc _) (by omega) (by decide) ?_; intro A7 c7 w7 hown7 hb7 hle7)
        first | go_roundw | refine ⟨?rel, ?measure⟩
        case rel => exact ⟨k + 1, m + 1, A7, c7, by omega, by go_num, rfl, by rw [Hs.out, fldCells_app]; exact hown7, hle7, by omega, hb7⟩
        case measure => simp [intOf]; omega
      cases q1 : (nm.toList == [101, 116, 97, 103])
      rotate_left
      · have Hs := Lib.hid (Hy.out (by simp [q0, q1]))
        clear Hy Hno
        go_wp2_with (at_builtin; refine wpList_app _ rfl _ _ 33 rfl w 51 _ 2 32 Tryz.underlying33 info_cln_F (by simp [Value.cells]) (by decide) _ _ _ rfl (hown2.alloc _) _ 1 1 (fldCells [(nm, vl)]) rfl (Rd.two _ _ _ _ (by simp)) (fldCells_one [(nm, vl)]) (hE.alloc _) (by omega) (by decide) ?_; intro A7 c7 w7 hown7 hb7 hle7)
        first | go_roundw | refine ⟨?rel, ?measure⟩
        case rel => exact ⟨k + 1, m + 1, A7, c7, by omega, by go_num, rfl, by rw [Hs.out, fldCells_app]; exact hown7, hle7, by omega, hb7⟩
        case measure => simp [intOf]; omega
      cases q2 : (nm.toList == [101, 120, 112, 105, 114, 101, 115])
      rotate_left
      · have Hs := Lib.hid (Hy.out (by simp [q0, q1, q2]))
        clear Hy Hno
        go_wp2_with (at_builtin; refine wpList_app _ rfl _ _ 33 rfl w 51 _ 2 32 Tryz.underlying33 info_cln_F (by simp [Value.cells]) (by decide) _ _ _ rfl (hown2.alloc _) _ 1 1 (fldCells [(nm, vl)]) rfl (Rd.two _ _ _ _ (by simp)) (fldCells_one [(nm, vl)]) (hE.alloc _) (by omega) (by decide) ?_; intro A7 c7 w7 hown7 hb7 hle7)
        first | go_roundw | refine ⟨?rel, ?measure⟩
        case rel => exact ⟨k + 1, m + 1, A7, c7, by omega, by go_num, rfl, by rw [Hs.out, fldCells_app]; exact hown7, hle7, by omega, hb7⟩
        case measure => simp [intOf]; omega
      cases q3 : (nm.toList == [108, 97, 115, 116, 45, 109, 111, 100, 105, 102, 105, 101, 100])
      rotate_left
      · have Hs := Lib.hid (Hy.out (by simp [q0, q1, q2, q3]))
        clear Hy Hno
        go_wp2_with (at_builtin; refine wpList_app _ rfl _ _ 33 rfl w 51 _ 2 32 Tryz.underlying33 info_cln_F (by simp [Value.cells]) (by decide) _ _ _ rfl (hown2.alloc _) _ 1 1 (fldCells [(nm, vl)]) rfl (Rd.two _ _ _ _ (by simp)) (fldCells_one [(nm, vl)]) (hE.alloc _) (by omega) (by decide) ?_; intro A7 c7 w7 hown7 hb7 hle7)
        first | go_roundw | refine ⟨?rel, ?measure⟩
        case rel => exact ⟨k + 1, m + 1, A7, c7, by omega, by go_num, rfl, by rw [Hs.out, fldCells_app]; exact hown7, hle7, by omega, hb7⟩
        case measure => simp [intOf]; omega
      cases q4 : (nm.toList == [115, 117, 114, 114, 111, 103, 97, 116, 101, 45, 107, 101, 121])
      rotate_left
      · have Hs := Lib.hid (Hy.out (by simp [q0, q1, q2, q3, q4]))
        clear Hy Hno
        go_wp2_with (at_builtin; refine wpList_app _ rfl _ _ 33 rfl w 51 _ 2 32 Tryz.underlying33 info_cln_F (by simp [Value.cells]) (by decide) _ _ _ rfl (hown2.alloc _) _ 1 1 (fldCells [(nm, vl)]) rfl (Rd.two _ _ _ _ (by simp)) (fldCells_one [(nm, vl)]) (hE.alloc _) (by omega) (by decide) ?_; intro A7 c7 w7 hown7 hb7 hle7)
        first | go_roundw | refine ⟨?rel, ?measure⟩
        case rel => exact ⟨k + 1, m + 1, A7, c7, by omega, by go_num, rfl, by rw [Hs.out, fldCells_app]; exact hown7, hle7, by omega, hb7⟩
        case measure => simp [intOf]; omega
      cases q5 : (nm.toList == [118, 97, 114, 121])
      rotate_left
      · have Hs := Lib.hid (Hy.out (by simp [q0, q1, q2, q3, q4, q5]))
        clear Hy Hno
        go_wp2_with (at_builtin; refine wpList_app _ rfl _ _ 33 rfl w 51 _ 2 32 Tryz.underlying33 info_cln_F (by simp [Value.cells]) (by decide) _ _ _ rfl (hown2.alloc _) _ 1 1 (fldCells [(nm, vl)]) rfl (Rd.two _ _ _ _ (by simp)) (fldCells_one [(nm, vl)]) (hE.alloc _) (by omega) (by decide) ?_; intro A7 c7 w7 hown7 hb7 hle7)
        first | go_roundw | refine ⟨?rel, ?measure⟩
        case rel => exact ⟨k + 1, m + 1, A7, c7, by omega, by go_num, rfl, by rw [Hs.out, fldCells_app]; exact hown7, hle7, by omega, hb7⟩
        case measure => simp [intOf]; omega
      have Hs := Lib.hid (Hno.out (by simp [q0, q1, q2, q3, q4, q5]))
      clear Hy Hno
      go_wp2_with fail
      first | go_roundw | refine ⟨?rel, ?measure⟩
      case rel => exact ⟨k + 1, m, A', c', by omega, by go_num, rfl, by rw [Hs.out]; exact hown2, hmc, by omega, hE⟩
      case measure => simp [intOf]; omega
    · obtain rfl : k = n := by omega
      go_wp2_with fail
      go_ret
      obtain ⟨s, hs, hsn, hr⟩ := RS.own hown
      refine ⟨s, by rw [← hs]; rfl, ?_, hbr⟩
      rw [List.take_of_length_le (by have := Hl.out; omega)] at hr
      exact hr
end Go.Proofs.YtmckbcbdnckngaaGreatDoor

namespace Go.Proofs.YtmckbcbdnckngaaGreatDoor
open Go.RowKit

theorem infoSt : (Tryz.prog.info? 187).map (·.size) = some 6 := by kernel_rfl
theorem far_cell {w : World} {b b' i j : Nat} {v u : Value} (h : w.cell? ⟨b, i, none⟩ = some v) (hne : b' ≠ b) : (w.setCell ⟨b', j, none⟩ u).cell? ⟨b, i, none⟩ = some v :=
  (World.cell?_setCell_other _ _ _ _ (by intro e; injection e with e1; exact hne (by omega))).trans h
theorem stS_eq (fs : List Fd) : stArr (stS fs) = #[.bool true, .bool ((getO fs x_et).bind tagS).isSome, .bool ((getO fs x_lm).bind dateP).isSome, .bool (((getO fs x_et).bind tagS).getD (false, ⟨#[]⟩)).1, .string (((getO fs x_et).bind tagS).getD (false, ⟨#[]⟩)).2, .int .i64 (((getO fs x_lm).bind dateP).getD 0)] := rfl
set_option maxHeartbeats 16000000 in
set_option maxRecDepth 100000 in
theorem or_state (A : Option Addr) (n c : Nat) (fs : List Fd) (w : World) (hf : RdF w A n fs) (hn : n ≤ 1048576) (hT : sumF fs + 2 * n ≤ 1048576) (hg : GlH w) :
    Calls Tryz.prog 107 #[.slice A n c] w fun e w' => e = .returned (.agg (stArr (stS fs))) ∧ Ext w w' := by
  have hbz := bszF fs
  have hbz2 : Bsz 1048576 fs := fun f hf => ⟨by have := (hbz f hf).1; omega, by have := (hbz f hf).2; omega⟩
  have G1 := Lib.hid (fun w' (h : Ext w w') => field_GetO A n c fs x_et w' (hf.ext h) (by omega) (by decide) hbz2 (by omega))
  have G2 := Lib.hid (fun w' (h : Ext w w') => field_GetO A n c fs x_lm w' (hf.ext h) (by omega) (by decide) hbz2 (by omega))
  have V1 := Lib.hid (fun v h => Nat.le_trans (@getO_size fs x_et v h n hf.lenF) hT)
  have V2 := Lib.hid (fun v h => Nat.le_trans (@getO_size fs x_lm v h n hf.lenF) hT)
  have HP := Lib.hid (fun w' (h : Ext w w') v (hv : v.size ≤ 1048576) => http_Parse v w' (by omega) (hg.ext h))
  have HR := Lib.hid (stS_eq fs)
  clear hbz hbz2 hf hT hg
  generalize stArr (stS fs) = R at *
  generalize getO fs x_et = oe at *
  generalize getO fs x_lm = ol at *
  have HB1 := Lib.hid ((Blk.new w 187 #[.bool false, .bool false, .bool false, .bool false, .string ⟨#[]⟩, .int .i64 0]).alloc (.cells #[.bool true, .bool false, .bool false, .bool false, .string ⟨#[]⟩, .int .i64 0] 187))
  have HB2 := Lib.hid (Blk.new (w.alloc (.cells #[.bool false, .bool false, .bool false, .bool false, .string ⟨#[]⟩, .int .i64 0] 187)) 187 #[.bool true, .bool false, .bool false, .bool false, .string ⟨#[]⟩, .int .i64 0])
  have hE := (((Ext.refl w).alloc (.cells #[.bool false, .bool false, .bool false, .bool false, .string ⟨#[]⟩, .int .i64 0] 187)).alloc (.cells #[.bool true, .bool false, .bool false, .bool false, .string ⟨#[]⟩, .int .i64 0] 187))
  have hsz1 : (w.alloc (.cells #[.bool false, .bool false, .bool false, .bool false, .string ⟨#[]⟩, .int .i64 0] 187)).heap.size = w.heap.size + 1 := by simp
  rw [hsz1] at HB2
  go_enter Tryz.func107, Tryz.ntmps107
  go_wp2_with fail
  (try rw [hsz1])
  refine (G1.out _ hE).mono ?_; rintro e w1 ⟨rfl, hb1⟩
  replace HB1 := Lib.hid (HB1.out.ext hb1); replace HB2 := Lib.hid (HB2.out.ext hb1)
  have hE := hE.trans hb1
  clear hb1 hsz1
  cases oe with
  | none =>
    rw [show getV none = .tuple #[.string ⟨#[]⟩, .bool false] from rfl]
    have HR1 := Lib.hid (show R = #[.bool true, .bool false, .bool (ol.bind dateP).isSome, .bool false, .string ⟨#[]⟩, .int .i64 ((ol.bind dateP).getD 0)] from by rw [HR.out]; rfl)
    go_wp2_with fail
    refine (G2.out _ hE).mono ?_; rintro e w5 ⟨rfl, hb5⟩
    replace HB1 := Lib.hid (HB1.out.ext hb5); replace HB2 := Lib.hid (HB2.out.ext hb5); replace hE := hE.trans hb5
    cases ol with
    | none =>
      rw [show getV none = .tuple #[.string ⟨#[]⟩, .bool false] from rfl]
      have d0 : w5.cell? ⟨w.heap.size + 1, 0, none⟩ = some (.bool true) := HB2.out.cell 0
      have d1 : w5.cell? ⟨w.heap.size + 1, 1, none⟩ = some (.bool false) := HB2.out.cell 1
      have d2 : w5.cell? ⟨w.heap.size + 1, 2, none⟩ = some (.bool false) := HB2.out.cell 2
      have d3 : w5.cell? ⟨w.heap.size + 1, 3, none⟩ = some (.bool false) := HB2.out.cell 3
      have d4 : w5.cell? ⟨w.heap.size + 1, 4, none⟩ = some (.string ⟨#[]⟩) := HB2.out.cell 4
      have d5 : w5.cell? ⟨w.heap.size + 1, 5, none⟩ = some (.int .i64 0) := HB2.out.cell 5
      go_wp2_with (first | (refine wpList_storeB rfl 187 (.tmp 2) (.tmp 45) rfl rfl w.heap.size _ rfl rfl 187 _ HB1.out infoSt rfl (by simp [Value.oneCell']) ?_; intro w9 hB9 hx9))
      have y0 : w9.cell? ⟨w.heap.size, 0, none⟩ = some (.bool true) := hB9.cell 0
      have y1 : w9.cell? ⟨w.heap.size, 1, none⟩ = some (.bool false) := hB9.cell 1
      have y2 : w9.cell? ⟨w.heap.size, 2, none⟩ = some (.bool false) := hB9.cell 2
      have y3 : w9.cell? ⟨w.heap.size, 3, none⟩ = some (.bool false) := hB9.cell 3
      have y4 : w9.cell? ⟨w.heap.size, 4, none⟩ = some (.string ⟨#[]⟩) := hB9.cell 4
      have y5 : w9.cell? ⟨w.heap.size, 5, none⟩ = some (.int .i64 0) := hB9.cell 5
      exact bodyPost_ret (v := .agg #[.bool true, .bool false, .bool false, .bool false, .string ⟨#[]⟩, .int .i64 0]) (by simp [results, Tryz.results107, go_sem, y0, y1, y2, y3, y4, y5]) rfl ⟨by rw [HR1.out]; rfl, hE.growB hx9 (Nat.le_refl _)⟩
    | some u =>
      rw [show getV (some u) = .tuple #[.string u, .bool true] from rfl]
      have hu := V2.out u rfl
      go_wp2_with fail
      refine (HP.out _ hE u hu).mono ?_; rintro e w6 ⟨rfl, hb6⟩
      replace HB1 := Lib.hid (HB1.out.ext hb6); replace HB2 := Lib.hid (HB2.out.ext hb6); replace hE := hE.trans hb6
      have e2 : w6.cell? ⟨w.heap.size + 1, 2, none⟩ = some (.bool false) := HB2.out.cell 2; have e5 : w6.cell? ⟨w.heap.size + 1, 5, none⟩ = some (.int .i64 0) := HB2.out.cell 5
      have g2 : w6.frozen? ⟨w.heap.size + 1, 2, none⟩ = false := HB2.out.frozen 2; have g5 : w6.frozen? ⟨w.heap.size + 1, 5, none⟩ = false := HB2.out.frozen 5
      have HBs := Lib.hid (fun (b : Bool) (m : Int) => (show Blk ((w6.setCell ⟨w.heap.size + 1, 2, none⟩ (.bool b)).setCell ⟨w.heap.size + 1, 5, none⟩ (.int .i64 m)) (w.heap.size + 1) 187 #[.bool true, .bool false, .bool b, .bool false, .string ⟨#[]⟩, .int .i64 m] from (HB2.out.set_ 2 _).set_ 5 _))
      have HB1s := Lib.hid (fun (b : Bool) (m : Int) => (show Blk ((w6.setCell ⟨w.heap.size + 1, 2, none⟩ (.bool b)).setCell ⟨w.heap.size + 1, 5, none⟩ (.int .i64 m)) w.heap.size 187 #[.bool false, .bool false, .bool false, .bool false, .string ⟨#[]⟩, .int .i64 0] from (HB1.out.far (p := ⟨w.heap.size + 1, 2, none⟩) (by simp) _).far (p := ⟨w.heap.size + 1, 5, none⟩) (by simp) _))
      have HEs := Lib.hid (fun (b : Bool) (m : Int) => ((hE.setCell (p := ⟨w.heap.size + 1, 2, none⟩) (by simp) (.bool b)).setCell (p := ⟨w.heap.size + 1, 5, none⟩) (by simp) (.int .i64 m)))
      cases hdp : dateP u with
      | none =>
        rw [show dpV none = .tuple #[.int .i64 0, .iface 63 (.int .i64 2)] from rfl]
        have HB2 := Lib.hid (HBs.out false 0); have HB1 := Lib.hid (HB1s.out false 0); have hE := HEs.out false 0
        go_upto_region 10 with fail
        clear e2 e5 g2 g5
        generalize ((w6.setCell ⟨w.heap.size + 1, 2, none⟩ (.bool false)).setCell ⟨w.heap.size + 1, 5, none⟩ (.int .i64 0)) = w7 at *
        have d0 : w7.cell? ⟨w.heap.size + 1, 0, none⟩ = some (.bool true) := HB2.out.cell 0
        have d1 : w7.cell? ⟨w.heap.size + 1, 1, none⟩ = some (.bool false) := HB2.out.cell 1
        have d2 : w7.cell? ⟨w.heap.size + 1, 2, none⟩ = some (.bool false) := HB2.out.cell 2
        have d3 : w7.cell? ⟨w.heap.size + 1, 3, none⟩ = some (.bool false) := HB2.out.cell 3
        have d4 : w7.cell? ⟨w.heap.size + 1, 4, none⟩ = some (.string ⟨#[]⟩) := HB2.out.cell 4
        have d5 : w7.cell? ⟨w.heap.size + 1, 5, none⟩ = some (.int .i64 0) := HB2.out.cell 5
        go_wp2_with (first | (refine wpList_storeB rfl 187 (.tmp 2) (.tmp 45) rfl rfl w.heap.size _ rfl rfl 187 _ HB1.out infoSt rfl (by simp [Value.oneCell']) ?_; intro w9 hB9 hx9))
        have y0 : w9.cell? ⟨w.heap.size, 0, none⟩ = some (.bool true) := hB9.cell 0
        have y1 : w9.cell? ⟨w.heap.size, 1, none⟩ = some (.bool false) := hB9.cell 1
        have y2 : w9.cell? ⟨w.heap.size, 2, none⟩ = some (.bool false) := hB9.cell 2
        have y3 : w9.cell? ⟨w.heap.size, 3, none⟩ = some (.bool false) := hB9.cell 3
        have y4 : w9.cell? ⟨w.heap.size, 4, none⟩ = some (.string ⟨#[]⟩) := hB9.cell 4
        have y5 : w9.cell? ⟨w.heap.size, 5, none⟩ = some (.int .i64 0) := hB9.cell 5
        exact bodyPost_ret (v := .agg #[.bool true, .bool false, .bool false, .bool false, .string ⟨#[]⟩, .int .i64 0]) (by simp [results, Tryz.results107, go_sem, y0, y1, y2, y3, y4, y5]) rfl ⟨by rw [HR1.out, show (some u).bind dateP = dateP u from rfl, hdp]; rfl, hE.growB hx9 (Nat.le_refl _)⟩
      | some m =>
        rw [show dpV (some m) = .tuple #[.int .i64 m, .nilIface] from rfl]
        have HB2 := Lib.hid (HBs.out true m); have HB1 := Lib.hid (HB1s.out true m); have hE := HEs.out true m
        go_upto_region 10 with fail
        clear e2 e5 g2 g5
        generalize ((w6.setCell ⟨w.heap.size + 1, 2, none⟩ (.bool true)).setCell ⟨w.heap.size + 1, 5, none⟩ (.int .i64 m)) = w7 at *
        have d0 : w7.cell? ⟨w.heap.size + 1, 0, none⟩ = some (.bool true) := HB2.out.cell 0
        have d1 : w7.cell? ⟨w.heap.size + 1, 1, none⟩ = some (.bool false) := HB2.out.cell 1
        have d2 : w7.cell? ⟨w.heap.size + 1, 2, none⟩ = some (.bool true) := HB2.out.cell 2
        have d3 : w7.cell? ⟨w.heap.size + 1, 3, none⟩ = some (.bool false) := HB2.out.cell 3
        have d4 : w7.cell? ⟨w.heap.size + 1, 4, none⟩ = some (.string ⟨#[]⟩) := HB2.out.cell 4
        have d5 : w7.cell? ⟨w.heap.size + 1, 5, none⟩ = some (.int .i64 m) := HB2.out.cell 5
        go_wp2_with (first | (refine wpList_storeB rfl 187 (.tmp 2) (.tmp 45) rfl rfl w.heap.size _ rfl rfl 187 _ HB1.out infoSt rfl (by simp [Value.oneCell']) ?_; intro w9 hB9 hx9))
        have y0 : w9.cell? ⟨w.heap.size, 0, none⟩ = some (.bool true) := hB9.cell 0
        have y1 : w9.cell? ⟨w.heap.size, 1, none⟩ = some (.bool false) := hB9.cell 1
        have y2 : w9.cell? ⟨w.heap.size, 2, none⟩ = some (.bool true) := hB9.cell 2
        have y3 : w9.cell? ⟨w.heap.size, 3, none⟩ = some (.bool false) := hB9.cell 3
        have y4 : w9.cell? ⟨w.heap.size, 4, none⟩ = some (.string ⟨#[]⟩) := hB9.cell 4
        have y5 : w9.cell? ⟨w.heap.size, 5, none⟩ = some (.int .i64 m) := hB9.cell 5
        exact bodyPost_ret (v := .agg #[.bool true, .bool false, .bool true, .bool false, .string ⟨#[]⟩, .int .i64 m]) (by simp [results, Tryz.results107, go_sem, y0, y1, y2, y3, y4, y5]) rfl ⟨by rw [HR1.out, show (some u).bind dateP = dateP u from rfl, hdp]; rfl, hE.growB hx9 (Nat.le_refl _)⟩
  | some v =>
    rw [show getV (some v) = .tuple #[.string v, .bool true] from rfl]
    go_wp2_with fail
    refine (val_ReadTag v _ (V1.out v rfl)).mono ?_; rintro e w2 ⟨rfl, hb2⟩
    replace HB1 := Lib.hid (HB1.out.ext hb2); replace HB2 := Lib.hid (HB2.out.ext hb2); replace hE := hE.trans hb2
    cases htg : tagS v with
    | none =>
      rw [show tagV none = .agg #[.bool false, .string ⟨#[]⟩] from rfl, show errV (tagE none) = .iface 63 (.int .i64 2) from rfl]
      have HB2b := HB2
      have HT := Lib.hid (Blk.new w2 185 #[.bool false, .string ⟨#[]⟩])
      replace HB1 := Lib.hid (HB1.out.alloc (.cells #[.bool false, .string ⟨#[]⟩] 185)); replace HB2 := Lib.hid (HB2.out.alloc (.cells #[.bool false, .string ⟨#[]⟩] 185)); replace hE := hE.alloc (.cells #[.bool false, .string ⟨#[]⟩] 185)
      have hne : w.heap.size + 1 ≠ w2.heap.size := by have := HB2b.out.lt; omega
      go_upto_region 5 with fail
      generalize w2.alloc (.cells #[.bool false, .string ⟨#[]⟩] 185) = w3 at *
      generalize w2.heap.size = b6 at *
      have t0 : w3.cell? ⟨b6, 0, none⟩ = some (.bool false) := HT.out.cell 0; have t1 : w3.cell? ⟨b6, 1, none⟩ = some (.string ⟨#[]⟩) := HT.out.cell 1
      refine wp_region_held_drew (S := (fun w' => w'.cell? ⟨b6, 0, none⟩ = some (.bool false) ∧ w'.cell? ⟨b6, 1, none⟩ = some (.string ⟨#[]⟩))) (by kernel_rfl) ?_ (fun hHeld => ?_)
      · (try dsimp only); exact ⟨t0, t1⟩
      refine wpAnyH_take (i := 0) (oi := { dst := some 24, op := _, type := _, pos := _, after := _, guard := _ }) (v := ?_) rfl (by kernel_rfl) (by kernel_rfl) (by kernel_rfl) (fun _ _ _ h => h) (Or.inl ⟨by rfl, ?_⟩) (by assumption) ?_
      rotate_left
      · (intro w hSw; (try dsimp only at hSw); go_simp; (try with_reducible rfl))
      (try simp only [Act.put, List.setIfInBounds_toArray, List.set_cons_zero, List.set_cons_succ])
      refine wpAnyH_take (i := 1) (oi := { dst := some 25, op := _, type := _, pos := _, after := _, guard := _ }) (v := ?_) rfl (by kernel_rfl) (by kernel_rfl) (by kernel_rfl) (fun _ _ _ h => h) (Or.inl ⟨by rfl, ?_⟩) (by assumption) ?_
      rotate_left
      · (intro w hSw; (try dsimp only at hSw); go_simp; (try with_reducible rfl))
      (try simp only [Act.put, List.setIfInBounds_toArray, List.set_cons_zero, List.set_cons_succ])
      refine wpAnyH_take (i := 2) (oi := { dst := some 26, op := _, type := _, pos := _, after := _, guard := _ }) (v := ?_) rfl (by kernel_rfl) (by kernel_rfl) (by kernel_rfl) (fun _ _ _ h => h) (Or.inl ⟨by rfl, ?_⟩) (by assumption) ?_
      rotate_left
      · (intro w hSw; (try dsimp only at hSw); go_simp; (try with_reducible rfl))
      (try simp only [Act.put, List.setIfInBounds_toArray, List.set_cons_zero, List.set_cons_succ])
      refine wpAnyH_take (i := 3) (oi := { dst := some 27, op := _, type := _, pos := _, after := _, guard := _ }) (v := ?_) rfl (by kernel_rfl) (by kernel_rfl) (by kernel_rfl) (fun _ _ _ h => h) (Or.inl ⟨by rfl, ?_⟩) (by assumption) ?_
      rotate_left
      · (intro w hSw; (try dsimp only at hSw); go_simp; (try with_reducible rfl))
      (try simp only [Act.put, List.setIfInBounds_toArray, List.set_cons_zero, List.set_cons_succ])
      refine wpAnyH_ready (rs := [4]) (by kernel_rfl) (by simp) ?_
      refine AllReadyH.cons (o := { dst := none, op := _, type := _, pos := _, after := _, guard := _ }) rfl (fun K hK => ?_) AllReadyH.nil
      have e1 : w3.cell? ⟨w.heap.size + 1, 1, none⟩ = some (.bool false) := HB2.out.cell 1; have e3 : w3.cell? ⟨w.heap.size + 1, 3, none⟩ = some (.bool false) := HB2.out.cell 3; have e4 : w3.cell? ⟨w.heap.size + 1, 4, none⟩ = some (.string ⟨#[]⟩) := HB2.out.cell 4; have g1 : w3.frozen? ⟨w.heap.size + 1, 1, none⟩ = false := HB2.out.frozen 1; have g3 : w3.frozen? ⟨w.heap.size + 1, 3, none⟩ = false := HB2.out.frozen 3; have g4 : w3.frozen? ⟨w.heap.size + 1, 4, none⟩ = false := HB2.out.frozen 4
      go_simp
      try go_wp2_with fail
      refine hK.out _ _ ?_ (fun hHeld => ?_)
      · (try dsimp only); exact ⟨far_cell t0 hne, far_cell t1 hne⟩
      clear hK K
      (try simp only [Act.put, List.setIfInBounds_toArray, List.set_cons_zero, List.set_cons_succ])
      refine wpAnyH_take (i := 5) (oi := { dst := some 28, op := _, type := _, pos := _, after := _, guard := _ }) (v := ?_) rfl (by kernel_rfl) (by kernel_rfl) (by kernel_rfl) (fun _ _ _ h => h) (Or.inl ⟨by rfl, ?_⟩) (by assumption) ?_
      rotate_left
      · (intro w hSw; (try dsimp only at hSw); go_simp; (try with_reducible rfl))
      (try simp only [Act.put, List.setIfInBounds_toArray, List.set_cons_zero, List.set_cons_succ])
      refine wpAnyH_ready (rs := [6]) (by kernel_rfl) (by simp) ?_
      refine AllReadyH.cons (o := { dst := none, op := _, type := _, pos := _, after := _, guard := _ }) rfl (fun K hK => ?_) AllReadyH.nil
      go_simp
      try go_wp2_with fail
      refine hK.out _ _ ?_ (fun hHeld => ?_)
      · (try dsimp only); exact ⟨far_cell (far_cell (far_cell t0 hne) hne) hne, far_cell (far_cell (far_cell t1 hne) hne) hne⟩
      clear hK K
      (try simp only [Act.put, List.setIfInBounds_toArray, List.set_cons_zero, List.set_cons_succ])
      refine wpAnyH_done (by kernel_rfl) ?_ _
      have HB2n := Lib.hid (show Blk (((w3.setCell ⟨w.heap.size + 1, 1, none⟩ (.bool false)).setCell ⟨w.heap.size + 1, 3, none⟩ (.bool false)).setCell ⟨w.heap.size + 1, 4, none⟩ (.string ⟨#[]⟩)) (w.heap.size + 1) 187 #[.bool true, .bool false, .bool false, .bool false, .string ⟨#[]⟩, .int .i64 0] from ((HB2.out.set_ 1 _).set_ 3 _).set_ 4 _)
      have HB1n := Lib.hid (show Blk (((w3.setCell ⟨w.heap.size + 1, 1, none⟩ (.bool false)).setCell ⟨w.heap.size + 1, 3, none⟩ (.bool false)).setCell ⟨w.heap.size + 1, 4, none⟩ (.string ⟨#[]⟩)) w.heap.size 187 #[.bool false, .bool false, .bool false, .bool false, .string ⟨#[]⟩, .int .i64 0] from ((HB1.out.far (p := ⟨w.heap.size + 1, 1, none⟩) (by simp) _).far (p := ⟨w.heap.size + 1, 3, none⟩) (by simp) _).far (p := ⟨w.heap.size + 1, 4, none⟩) (by simp) _)
      have hEn := (((hE.setCell (p := ⟨w.heap.size + 1, 1, none⟩) (by simp) (.bool false)).setCell (p := ⟨w.heap.size + 1, 3, none⟩) (by simp) (.bool false)).setCell (p := ⟨w.heap.size + 1, 4, none⟩) (by simp) (.string ⟨#[]⟩))
      clear e1 e3 e4 g1 g3 g4 t0 t1 HB1 HB2 hE
      have HB1 := HB1n; have HB2 := HB2n; have hE := hEn
      change Ext w (((w3.setCell ⟨w.heap.size + 1, 1, none⟩ (.bool false)).setCell ⟨w.heap.size + 1, 3, none⟩ (.bool false)).setCell ⟨w.heap.size + 1, 4, none⟩ (.string ⟨#[]⟩)) at hE
      generalize (((w3.setCell ⟨w.heap.size + 1, 1, none⟩ (.bool false)).setCell ⟨w.heap.size + 1, 3, none⟩ (.bool false)).setCell ⟨w.heap.size + 1, 4, none⟩ (.string ⟨#[]⟩)) = w4' at *
      replace hE := hE.drew
      have HB1 := Lib.hid (HB1.out.drew)
      have HB2 := Lib.hid (HB2.out.drew)
      generalize w4'.drew = w4 at *
      have HR1 := Lib.hid (show R = #[.bool true, .bool false, .bool (ol.bind dateP).isSome, .bool false, .string ⟨#[]⟩, .int .i64 ((ol.bind dateP).getD 0)] from by rw [HR.out]; simp only [Option.bind_some, htg]; rfl)
      go_wp2_with fail
      refine (G2.out _ hE).mono ?_; rintro e w5 ⟨rfl, hb5⟩
      replace HB1 := Lib.hid (HB1.out.ext hb5); replace HB2 := Lib.hid (HB2.out.ext hb5); replace hE := hE.trans hb5
      cases ol with
      | none =>
        rw [show getV none = .tuple #[.string ⟨#[]⟩, .bool false] from rfl]
        have d0 : w5.cell? ⟨w.heap.size + 1, 0, none⟩ = some (.bool true) := HB2.out.cell 0
        have d1 : w5.cell? ⟨w.heap.size + 1, 1, none⟩ = some (.bool false) := HB2.out.cell 1
        have d2 : w5.cell? ⟨w.heap.size + 1, 2, none⟩ = some (.bool false) := HB2.out.cell 2
        have d3 : w5.cell? ⟨w.heap.size + 1, 3, none⟩ = some (.bool false) := HB2.out.cell 3
        have d4 : w5.cell? ⟨w.heap.size + 1, 4, none⟩ = some (.string ⟨#[]⟩) := HB2.out.cell 4
        have d5 : w5.cell? ⟨w.heap.size + 1, 5, none⟩ = some (.int .i64 0) := HB2.out.cell 5
        go_wp2_with (first | (refine wpList_storeB rfl 187 (.tmp 2) (.tmp 45) rfl rfl w.heap.size _ rfl rfl 187 _ HB1.out infoSt rfl (by simp [Value.oneCell']) ?_; intro w9 hB9 hx9))
        have y0 : w9.cell? ⟨w.heap.size, 0, none⟩ = some (.bool true) := hB9.cell 0
        have y1 : w9.cell? ⟨w.heap.size, 1, none⟩ = some (.bool false) := hB9.cell 1
        have y2 : w9.cell? ⟨w.heap.size, 2, none⟩ = some (.bool false) := hB9.cell 2
        have y3 : w9.cell? ⟨w.heap.size, 3, none⟩ = some (.bool false) := hB9.cell 3
        have y4 : w9.cell? ⟨w.heap.size, 4, none⟩ = some (.string ⟨#[]⟩) := hB9.cell 4
        have y5 : w9.cell? ⟨w.heap.size, 5, none⟩ = some (.int .i64 0) := hB9.cell 5
        exact bodyPost_ret (v := .agg #[.bool true, .bool false, .bool false, .bool false, .string ⟨#[]⟩, .int .i64 0]) (by simp [results, Tryz.results107, go_sem, y0, y1, y2, y3, y4, y5]) rfl ⟨by rw [HR1.out]; rfl, hE.growB hx9 (Nat.le_refl _)⟩
      | some u =>
        rw [show getV (some u) = .tuple #[.string u, .bool true] from rfl]
        have hu := V2.out u rfl
        go_wp2_with fail
        refine (HP.out _ hE u hu).mono ?_; rintro e w6 ⟨rfl, hb6⟩
        replace HB1 := Lib.hid (HB1.out.ext hb6); replace HB2 := Lib.hid (HB2.out.ext hb6); replace hE := hE.trans hb6
        have e2 : w6.cell? ⟨w.heap.size + 1, 2, none⟩ = some (.bool false) := HB2.out.cell 2; have e5 : w6.cell? ⟨w.heap.size + 1, 5, none⟩ = some (.int .i64 0) := HB2.out.cell 5
        have g2 : w6.frozen? ⟨w.heap.size + 1, 2, none⟩ = false := HB2.out.frozen 2; have g5 : w6.frozen? ⟨w.heap.size + 1, 5, none⟩ = false := HB2.out.frozen 5
        have HBs := Lib.hid (fun (b : Bool) (m : Int) => (show Blk ((w6.setCell ⟨w.heap.size + 1, 2, none⟩ (.bool b)).setCell ⟨w.heap.size + 1, 5, none⟩ (.int .i64 m)) (w.heap.size + 1) 187 #[.bool true, .bool false, .bool b, .bool false, .string ⟨#[]⟩, .int .i64 m] from (HB2.out.set_ 2 _).set_ 5 _))
        have HB1s := Lib.hid (fun (b : Bool) (m : Int) => (show Blk ((w6.setCell ⟨w.heap.size + 1, 2, none⟩ (.bool b)).setCell ⟨w.heap.size + 1, 5, none⟩ (.int .i64 m)) w.heap.size 187 #[.bool false, .bool false, .bool false, .bool false, .string ⟨#[]⟩, .int .i64 0] from (HB1.out.far (p := ⟨w.heap.size + 1, 2, none⟩) (by simp) _).far (p := ⟨w.heap.size + 1, 5, none⟩) (by simp) _))
        have HEs := Lib.hid (fun (b : Bool) (m : Int) => ((hE.setCell (p := ⟨w.heap.size + 1, 2, none⟩) (by simp) (.bool b)).setCell (p := ⟨w.heap.size + 1, 5, none⟩) (by simp) (.int .i64 m)))
        cases hdp : dateP u with
        | none =>
          rw [show dpV none = .tuple #[.int .i64 0, .iface 63 (.int .i64 2)] from rfl]
          have HB2 := Lib.hid (HBs.out false 0); have HB1 := Lib.hid (HB1s.out false 0); have hE := HEs.out false 0
          go_upto_region 10 with fail
          clear e2 e5 g2 g5
          generalize ((w6.setCell ⟨w.heap.size + 1, 2, none⟩ (.bool false)).setCell ⟨w.heap.size + 1, 5, none⟩ (.int .i64 0)) = w7 at *
          have d0 : w7.cell? ⟨w.heap.size + 1, 0, none⟩ = some (.bool true) := HB2.out.cell 0
          have d1 : w7.cell? ⟨w.heap.size + 1, 1, none⟩ = some (.bool false) := HB2.out.cell 1
          have d2 : w7.cell? ⟨w.heap.size + 1, 2, none⟩ = some (.bool false) := HB2.out.cell 2
          have d3 : w7.cell? ⟨w.heap.size + 1, 3, none⟩ = some (.bool false) := HB2.out.cell 3
          have d4 : w7.cell? ⟨w.heap.size + 1, 4, none⟩ = some (.string ⟨#[]⟩) := HB2.out.cell 4
          have d5 : w7.cell? ⟨w.heap.size + 1, 5, none⟩ = some (.int .i64 0) := HB2.out.cell 5
          go_wp2_with (first | (refine wpList_storeB rfl 187 (.tmp 2) (.tmp 45) rfl rfl w.heap.size _ rfl rfl 187 _ HB1.out infoSt rfl (by simp [Value.oneCell']) ?_; intro w9 hB9 hx9))
          have y0 : w9.cell? ⟨w.heap.size, 0, none⟩ = some (.bool true) := hB9.cell 0
          have y1 : w9.cell? ⟨w.heap.size, 1, none⟩ = some (.bool false) := hB9.cell 1
          have y2 : w9.cell? ⟨w.heap.size, 2, none⟩ = some (.bool false) := hB9.cell 2
          have y3 : w9.cell? ⟨w.heap.size, 3, none⟩ = some (.bool false) := hB9.cell 3
          have y4 : w9.cell? ⟨w.heap.size, 4, none⟩ = some (.string ⟨#[]⟩) := hB9.cell 4
          have y5 : w9.cell? ⟨w.heap.size, 5, none⟩ = some (.int .i64 0) := hB9.cell 5
          exact bodyPost_ret (v := .agg #[.bool true, .bool false, .bool false, .bool false, .string ⟨#[]⟩, .int .i64 0]) (by simp [results, Tryz.results107, go_sem, y0, y1, y2, y3, y4, y5]) rfl ⟨by rw [HR1.out, show (some u).bind dateP = dateP u from rfl, hdp]; rfl, hE.growB hx9 (Nat.le_refl _)⟩
        | some m =>
          rw [show dpV (some m) = .tuple #[.int .i64 m, .nilIface] from rfl]
          have HB2 := Lib.hid (HBs.out true m); have HB1 := Lib.hid (HB1s.out true m); have hE := HEs.out true m
          go_upto_region 10 with fail
          clear e2 e5 g2 g5
          generalize ((w6.setCell ⟨w.heap.size + 1, 2, none⟩ (.bool true)).setCell ⟨w.heap.size + 1, 5, none⟩ (.int .i64 m)) = w7 at *
          have d0 : w7.cell? ⟨w.heap.size + 1, 0, none⟩ = some (.bool true) := HB2.out.cell 0
          have d1 : w7.cell? ⟨w.heap.size + 1, 1, none⟩ = some (.bool false) := HB2.out.cell 1
          have d2 : w7.cell? ⟨w.heap.size + 1, 2, none⟩ = some (.bool true) := HB2.out.cell 2
          have d3 : w7.cell? ⟨w.heap.size + 1, 3, none⟩ = some (.bool false) := HB2.out.cell 3
          have d4 : w7.cell? ⟨w.heap.size + 1, 4, none⟩ = some (.string ⟨#[]⟩) := HB2.out.cell 4
          have d5 : w7.cell? ⟨w.heap.size + 1, 5, none⟩ = some (.int .i64 m) := HB2.out.cell 5
          go_wp2_with (first | (refine wpList_storeB rfl 187 (.tmp 2) (.tmp 45) rfl rfl w.heap.size _ rfl rfl 187 _ HB1.out infoSt rfl (by simp [Value.oneCell']) ?_; intro w9 hB9 hx9))
          have y0 : w9.cell? ⟨w.heap.size, 0, none⟩ = some (.bool true) := hB9.cell 0
          have y1 : w9.cell? ⟨w.heap.size, 1, none⟩ = some (.bool false) := hB9.cell 1
          have y2 : w9.cell? ⟨w.heap.size, 2, none⟩ = some (.bool true) := hB9.cell 2
          have y3 : w9.cell? ⟨w.heap.size, 3, none⟩ = some (.bool false) := hB9.cell 3
          have y4 : w9.cell? ⟨w.heap.size, 4, none⟩ = some (.string ⟨#[]⟩) := hB9.cell 4
          have y5 : w9.cell? ⟨w.heap.size, 5, none⟩ = some (.int .i64 m) := hB9.cell 5
          exact bodyPost_ret (v := .agg #[.bool true, .bool false, .bool true, .bool false, .string ⟨#[]⟩, .int .i64 m]) (by simp [results, Tryz.results107, go_sem, y0, y1, y2, y3, y4, y5]) rfl ⟨by rw [HR1.out, show (some u).bind dateP = dateP u from rfl, hdp]; rfl, hE.growB hx9 (Nat.le_refl _)⟩
    | some t =>
      obtain ⟨tw, tt⟩ := t
      rw [show tagV (some (tw, tt)) = .agg #[.bool tw, .string tt] from rfl, show errV (tagE (some (tw, tt))) = .nilIface from rfl]
      have HB2b := HB2
      have HT := Lib.hid (Blk.new w2 185 #[.bool tw, .string tt])
      replace HB1 := Lib.hid (HB1.out.alloc (.cells #[.bool tw, .string tt] 185)); replace HB2 := Lib.hid (HB2.out.alloc (.cells #[.bool tw, .string tt] 185)); replace hE := hE.alloc (.cells #[.bool tw, .string tt] 185)
      have hne : w.heap.size + 1 ≠ w2.heap.size := by have := HB2b.out.lt; omega
      go_upto_region 5 with fail
      generalize w2.alloc (.cells #[.bool tw, .string tt] 185) = w3 at *
      generalize w2.heap.size = b6 at *
      have t0 : w3.cell? ⟨b6, 0, none⟩ = some (.bool tw) := HT.out.cell 0; have t1 : w3.cell? ⟨b6, 1, none⟩ = some (.string tt) := HT.out.cell 1
      refine wp_region_held_drew (S := (fun w' => w'.cell? ⟨b6, 0, none⟩ = some (.bool tw) ∧ w'.cell? ⟨b6, 1, none⟩ = some (.string tt))) (by kernel_rfl) ?_ (fun hHeld => ?_)
      · (try dsimp only); exact ⟨t0, t1⟩
      refine wpAnyH_take (i := 0) (oi := { dst := some 24, op := _, type := _, pos := _, after := _, guard := _ }) (v := ?_) rfl (by kernel_rfl) (by kernel_rfl) (by kernel_rfl) (fun _ _ _ h => h) (Or.inl ⟨by rfl, ?_⟩) (by assumption) ?_
      rotate_left
      · (intro w hSw; (try dsimp only at hSw); go_simp; (try with_reducible rfl))
      (try simp only [Act.put, List.setIfInBounds_toArray, List.set_cons_zero, List.set_cons_succ])
      refine wpAnyH_take (i := 1) (oi := { dst := some 25, op := _, type := _, pos := _, after := _, guard := _ }) (v := ?_) rfl (by kernel_rfl) (by kernel_rfl) (by kernel_rfl) (fun _ _ _ h => h) (Or.inl ⟨by rfl, ?_⟩) (by assumption) ?_
      rotate_left
      · (intro w hSw; (try dsimp only at hSw); go_simp; (try with_reducible rfl))
      (try simp only [Act.put, List.setIfInBounds_toArray, List.set_cons_zero, List.set_cons_succ])
      refine wpAnyH_take (i := 2) (oi := { dst := some 26, op := _, type := _, pos := _, after := _, guard := _ }) (v := ?_) rfl (by kernel_rfl) (by kernel_rfl) (by kernel_rfl) (fun _ _ _ h => h) (Or.inl ⟨by rfl, ?_⟩) (by assumption) ?_
      rotate_left
      · (intro w hSw; (try dsimp only at hSw); go_simp; (try with_reducible rfl))
      (try simp only [Act.put, List.setIfInBounds_toArray, List.set_cons_zero, List.set_cons_succ])
      refine wpAnyH_take (i := 3) (oi := { dst := some 27, op := _, type := _, pos := _, after := _, guard := _ }) (v := ?_) rfl (by kernel_rfl) (by kernel_rfl) (by kernel_rfl) (fun _ _ _ h => h) (Or.inl ⟨by rfl, ?_⟩) (by assumption) ?_
      rotate_left
      · (intro w hSw; (try dsimp only at hSw); go_simp; (try with_reducible rfl))
      (try simp only [Act.put, List.setIfInBounds_toArray, List.set_cons_zero, List.set_cons_succ])
      refine wpAnyH_ready (rs := [4]) (by kernel_rfl) (by simp) ?_
      refine AllReadyH.cons (o := { dst := none, op := _, type := _, pos := _, after := _, guard := _ }) rfl (fun K hK => ?_) AllReadyH.nil
      have e1 : w3.cell? ⟨w.heap.size + 1, 1, none⟩ = some (.bool false) := HB2.out.cell 1; have e3 : w3.cell? ⟨w.heap.size + 1, 3, none⟩ = some (.bool false) := HB2.out.cell 3; have e4 : w3.cell? ⟨w.heap.size + 1, 4, none⟩ = some (.string ⟨#[]⟩) := HB2.out.cell 4; have g1 : w3.frozen? ⟨w.heap.size + 1, 1, none⟩ = false := HB2.out.frozen 1; have g3 : w3.frozen? ⟨w.heap.size + 1, 3, none⟩ = false := HB2.out.frozen 3; have g4 : w3.frozen? ⟨w.heap.size + 1, 4, none⟩ = false := HB2.out.frozen 4
      go_simp
      try go_wp2_with fail
      refine hK.out _ _ ?_ (fun hHeld => ?_)
      · (try dsimp only); exact ⟨far_cell t0 hne, far_cell t1 hne⟩
      clear hK K
      (try simp only [Act.put, List.setIfInBounds_toArray, List.set_cons_zero, List.set_cons_succ])
      refine wpAnyH_take (i := 5) (oi := { dst := some 28, op := _, type := _, pos := _, after := _, guard := _ }) (v := ?_) rfl (by kernel_rfl) (by kernel_rfl) (by kernel_rfl) (fun _ _ _ h => h) (Or.inl ⟨by rfl, ?_⟩) (by assumption) ?_
      rotate_left
      · (intro w hSw; (try dsimp only at hSw); go_simp; (try with_reducible rfl))
      (try simp only [Act.put, List.setIfInBounds_toArray, List.set_cons_zero, List.set_cons_succ])
      refine wpAnyH_ready (rs := [6]) (by kernel_rfl) (by simp) ?_
      refine AllReadyH.cons (o := { dst := none, op := _, type := _, pos := _, after := _, guard := _ }) rfl (fun K hK => ?_) AllReadyH.nil
      go_simp
      try go_wp2_with fail
      refine hK.out _ _ ?_ (fun hHeld => ?_)
      · (try dsimp only); exact ⟨far_cell (far_cell (far_cell t0 hne) hne) hne, far_cell (far_cell (far_cell t1 hne) hne) hne⟩
      clear hK K
      (try simp only [Act.put, List.setIfInBounds_toArray, List.set_cons_zero, List.set_cons_succ])
      refine wpAnyH_done (by kernel_rfl) ?_ _
      have HB2n := Lib.hid (show Blk (((w3.setCell ⟨w.heap.size + 1, 1, none⟩ (.bool true)).setCell ⟨w.heap.size + 1, 3, none⟩ (.bool tw)).setCell ⟨w.heap.size + 1, 4, none⟩ (.string tt)) (w.heap.size + 1) 187 #[.bool true, .bool true, .bool false, .bool tw, .string tt, .int .i64 0] from ((HB2.out.set_ 1 _).set_ 3 _).set_ 4 _)
      have HB1n := Lib.hid (show Blk (((w3.setCell ⟨w.heap.size + 1, 1, none⟩ (.bool true)).setCell ⟨w.heap.size + 1, 3, none⟩ (.bool tw)).setCell ⟨w.heap.size + 1, 4, none⟩ (.string tt)) w.heap.size 187 #[.bool false, .bool false, .bool false, .bool false, .string ⟨#[]⟩, .int .i64 0] from ((HB1.out.far (p := ⟨w.heap.size + 1, 1, none⟩) (by simp) _).far (p := ⟨w.heap.size + 1, 3, none⟩) (by simp) _).far (p := ⟨w.heap.size + 1, 4, none⟩) (by simp) _)
      have hEn := (((hE.setCell (p := ⟨w.heap.size + 1, 1, none⟩) (by simp) (.bool true)).setCell (p := ⟨w.heap.size + 1, 3, none⟩) (by simp) (.bool tw)).setCell (p := ⟨w.heap.size + 1, 4, none⟩) (by simp) (.string tt))
      clear e1 e3 e4 g1 g3 g4 t0 t1 HB1 HB2 hE
      have HB1 := HB1n; have HB2 := HB2n; have hE := hEn
      change Ext w (((w3.setCell ⟨w.heap.size + 1, 1, none⟩ (.bool true)).setCell ⟨w.heap.size + 1, 3, none⟩ (.bool tw)).setCell ⟨w.heap.size + 1, 4, none⟩ (.string tt)) at hE
      generalize (((w3.setCell ⟨w.heap.size + 1, 1, none⟩ (.bool true)).setCell ⟨w.heap.size + 1, 3, none⟩ (.bool tw)).setCell ⟨w.heap.size + 1, 4, none⟩ (.string tt)) = w4' at *
      replace hE := hE.drew
      have HB1 := Lib.hid (HB1.out.drew)
      have HB2 := Lib.hid (HB2.out.drew)
      generalize w4'.drew = w4 at *
      have HR1 := Lib.hid (show R = #[.bool true, .bool true, .bool (ol.bind dateP).isSome, .bool tw, .string tt, .int .i64 ((ol.bind dateP).getD 0)] from by rw [HR.out]; simp only [Option.bind_some, htg]; rfl)
      go_wp2_with fail
      refine (G2.out _ hE).mono ?_; rintro e w5 ⟨rfl, hb5⟩
      replace HB1 := Lib.hid (HB1.out.ext hb5); replace HB2 := Lib.hid (HB2.out.ext hb5); replace hE := hE.trans hb5
      cases ol with
      | none =>
        rw [show getV none = .tuple #[.string ⟨#[]⟩, .bool false] from rfl]
        have d0 : w5.cell? ⟨w.heap.size + 1, 0, none⟩ = some (.bool true) := HB2.out.cell 0
        have d1 : w5.cell? ⟨w.heap.size + 1, 1, none⟩ = some (.bool true) := HB2.out.cell 1
        have d2 : w5.cell? ⟨w.heap.size + 1, 2, none⟩ = some (.bool false) := HB2.out.cell 2
        have d3 : w5.cell? ⟨w.heap.size + 1, 3, none⟩ = some (.bool tw) := HB2.out.cell 3
        have d4 : w5.cell? ⟨w.heap.size + 1, 4, none⟩ = some (.string tt) := HB2.out.cell 4
        have d5 : w5.cell? ⟨w.heap.size + 1, 5, none⟩ = some (.int .i64 0) := HB2.out.cell 5
        go_wp2_with (first | (refine wpList_storeB rfl 187 (.tmp 2) (.tmp 45) rfl rfl w.heap.size _ rfl rfl 187 _ HB1.out infoSt rfl (by simp [Value.oneCell']) ?_; intro w9 hB9 hx9))
        have y0 : w9.cell? ⟨w.heap.size, 0, none⟩ = some (.bool true) := hB9.cell 0
        have y1 : w9.cell? ⟨w.heap.size, 1, none⟩ = some (.bool true) := hB9.cell 1
        have y2 : w9.cell? ⟨w.heap.size, 2, none⟩ = some (.bool false) := hB9.cell 2
        have y3 : w9.cell? ⟨w.heap.size, 3, none⟩ = some (.bool tw) := hB9.cell 3
        have y4 : w9.cell? ⟨w.heap.size, 4, none⟩ = some (.string tt) := hB9.cell 4
        have y5 : w9.cell? ⟨w.heap.size, 5, none⟩ = some (.int .i64 0) := hB9.cell 5
        exact bodyPost_ret (v := .agg #[.bool true, .bool true, .bool false, .bool tw, .string tt, .int .i64 0]) (by simp [results, Tryz.results107, go_sem, y0, y1, y2, y3, y4, y5]) rfl ⟨by rw [HR1.out]; rfl, hE.growB hx9 (Nat.le_refl _)⟩
      | some u =>
        rw [show getV (some u) = .tuple #[.string u, .bool true] from rfl]
        have hu := V2.out u rfl
        go_wp2_with fail
        refine (HP.out _ hE u hu).mono ?_; rintro e w6 ⟨rfl, hb6⟩
        replace HB1 := Lib.hid (HB1.out.ext hb6); replace HB2 := Lib.hid (HB2.out.ext hb6); replace hE := hE.trans hb6
        have e2 : w6.cell? ⟨w.heap.size + 1, 2, none⟩ = some (.bool false) := HB2.out.cell 2; have e5 : w6.cell? ⟨w.heap.size + 1, 5, none⟩ = some (.int .i64 0) := HB2.out.cell 5
        have g2 : w6.frozen? ⟨w.heap.size + 1, 2, none⟩ = false := HB2.out.frozen 2; have g5 : w6.frozen? ⟨w.heap.size + 1, 5, none⟩ = false := HB2.out.frozen 5
        have HBs := Lib.hid (fun (b : Bool) (m : Int) => (show Blk ((w6.setCell ⟨w.heap.size + 1, 2, none⟩ (.bool b)).setCell ⟨w.heap.size + 1, 5, none⟩ (.int .i64 m)) (w.heap.size + 1) 187 #[.bool true, .bool true, .bool b, .bool tw, .string tt, .int .i64 m] from (HB2.out.set_ 2 _).set_ 5 _))
        have HB1s := Lib.hid (fun (b : Bool) (m : Int) => (show Blk ((w6.setCell ⟨w.heap.size + 1, 2, none⟩ (.bool b)).setCell ⟨w.heap.size + 1, 5, none⟩ (.int .i64 m)) w.heap.size 187 #[.bool false, .bool false, .bool false, .bool false, .string ⟨#[]⟩, .int .i64 0] from (HB1.out.far (p := ⟨w.heap.size + 1, 2, none⟩) (by simp) _).far (p := ⟨w.heap.size + 1, 5, none⟩) (by simp) _))
        have HEs := Lib.hid (fun (b : Bool) (m : Int) => ((hE.setCell (p := ⟨w.heap.size + 1, 2, none⟩) (by simp) (.bool b)).setCell (p := ⟨w.heap.size + 1, 5, none⟩) (by simp) (.int .i64 m)))
        cases hdp : dateP u with
        | none =>
          rw [show dpV none = .tuple #[.int .i64 0, .iface 63 (.int .i64 2)] from rfl]
          have HB2 := Lib.hid (HBs.out false 0); have HB1 := Lib.hid (HB1s.out false 0); have hE := HEs.out false 0
          go_upto_region 10 with fail
          clear e2 e5 g2 g5
          generalize ((w6.setCell ⟨w.heap.size + 1, 2, none⟩ (.bool false)).setCell ⟨w.heap.size + 1, 5, none⟩ (.int .i64 0)) = w7 at *
          have d0 : w7.cell? ⟨w.heap.size + 1, 0, none⟩ = some (.bool true) := HB2.out.cell 0
          have d1 : w7.cell? ⟨w.heap.size + 1, 1, none⟩ = some (.bool true) := HB2.out.cell 1
          have d2 : w7.cell? ⟨w.heap.size + 1, 2, none⟩ = some (.bool false) := HB2.out.cell 2
          have d3 : w7.cell? ⟨w.heap.size + 1, 3, none⟩ = some (.bool tw) := HB2.out.cell 3
          have d4 : w7.cell? ⟨w.heap.size + 1, 4, none⟩ = some (.string tt) := HB2.out.cell 4
          have d5 : w7.cell? ⟨w.heap.size + 1, 5, none⟩ = some (.int .i64 0) := HB2.out.cell 5
          go_wp2_with (first | (refine wpList_storeB rfl 187 (.tmp 2) (.tmp 45) rfl rfl w.heap.size _ rfl rfl 187 _ HB1.out infoSt rfl (by simp [Value.oneCell']) ?_; intro w9 hB9 hx9))
          have y0 : w9.cell? ⟨w.heap.size, 0, none⟩ = some (.bool true) := hB9.cell 0
          have y1 : w9.cell? ⟨w.heap.size, 1, none⟩ = some (.bool true) := hB9.cell 1
          have y2 : w9.cell? ⟨w.heap.size, 2, none⟩ = some (.bool false) := hB9.cell 2
          have y3 : w9.cell? ⟨w.heap.size, 3, none⟩ = some (.bool tw) := hB9.cell 3
          have y4 : w9.cell? ⟨w.heap.size, 4, none⟩ = some (.string tt) := hB9.cell 4
          have y5 : w9.cell? ⟨w.heap.size, 5, none⟩ = some (.int .i64 0) := hB9.cell 5
          exact bodyPost_ret (v := .agg #[.bool true, .bool true, .bool false, .bool tw, .string tt, .int .i64 0]) (by simp [results, Tryz.results107, go_sem, y0, y1, y2, y3, y4, y5]) rfl ⟨by rw [HR1.out, show (some u).bind dateP = dateP u from rfl, hdp]; rfl, hE.growB hx9 (Nat.le_refl _)⟩
        | some m =>
          rw [show dpV (some m) = .tuple #[.int .i64 m, .nilIface] from rfl]
          have HB2 := Lib.hid (HBs.out true m); have HB1 := Lib.hid (HB1s.out true m); have hE := HEs.out true m
          go_upto_region 10 with fail
          clear e2 e5 g2 g5
          generalize ((w6.setCell ⟨w.heap.size + 1, 2, none⟩ (.bool true)).setCell ⟨w.heap.size + 1, 5, none⟩ (.int .i64 m)) = w7 at *
          have d0 : w7.cell? ⟨w.heap.size + 1, 0, none⟩ = some (.bool true) := HB2.out.cell 0
          have d1 : w7.cell? ⟨w.heap.size + 1, 1, none⟩ = some (.bool true) := HB2.out.cell 1
          have d2 : w7.cell? ⟨w.heap.size + 1, 2, none⟩ = some (.bool true) := HB2.out.cell 2
          have d3 : w7.cell? ⟨w.heap.size + 1, 3, none⟩ = some (.bool tw) := HB2.out.cell 3
          have d4 : w7.cell? ⟨w.heap.size + 1, 4, none⟩ = some (.string tt) := HB2.out.cell 4
          have d5 : w7.cell? ⟨w.heap.size + 1, 5, none⟩ = some (.int .i64 m) := HB2.out.cell 5
          go_wp2_with (first | (refine wpList_storeB rfl 187 (.tmp 2) (.tmp 45) rfl rfl w.heap.size _ rfl rfl 187 _ HB1.out infoSt rfl (by simp [Value.oneCell']) ?_; intro w9 hB9 hx9))
          have y0 : w9.cell? ⟨w.heap.size, 0, none⟩ = some (.bool true) := hB9.cell 0
          have y1 : w9.cell? ⟨w.heap.size, 1, none⟩ = some (.bool true) := hB9.cell 1
          have y2 : w9.cell? ⟨w.heap.size, 2, none⟩ = some (.bool true) := hB9.cell 2
          have y3 : w9.cell? ⟨w.heap.size, 3, none⟩ = some (.bool tw) := hB9.cell 3
          have y4 : w9.cell? ⟨w.heap.size, 4, none⟩ = some (.string tt) := hB9.cell 4
          have y5 : w9.cell? ⟨w.heap.size, 5, none⟩ = some (.int .i64 m) := hB9.cell 5
          exact bodyPost_ret (v := .agg #[.bool true, .bool true, .bool true, .bool tw, .string tt, .int .i64 m]) (by simp [results, Tryz.results107, go_sem, y0, y1, y2, y3, y4, y5]) rfl ⟨by rw [HR1.out, show (some u).bind dateP = dateP u from rfl, hdp]; rfl, hE.growB hx9 (Nat.le_refl _)⟩
end Go.Proofs.YtmckbcbdnckngaaGreatDoor

namespace Go.Proofs.YtmckbcbdnckngaaGreatDoor
open Go.RowKit

set_option maxHeartbeats 1000000 in
theorem field_AllO (A : Option Addr) (n c : Nat) (fs : List Fd) (name : ByteArray) (w : World) (hf : RdF w A n fs)
    (hn : n ≤ 1073741824) (hs : name.size ≤ 9223372036854775807) (hsz : ∀ f ∈ fs, f.1.size ≤ 9223372036854775807) :
    Calls Tryz.prog 50 #[.slice A n c, .string name] w fun e w' => ∃ A' n' c', e = .returned (.slice A' n' c') ∧ RdS w' A' n' (allS fs name) ∧ n' ≤ c' ∧ Ext w w' ∧ w'.ownsRow w.heap.size 9 1 (.slice A' n' c') n' (strCells (allS fs name)) := by
  go_enter Tryz.func50, Tryz.ntmps50
  go_wp2_with (go_at_call 65; refine (field_lower _ _ (by assumption)).mono ?_; rintro e w1 ⟨rfl, hb1⟩)
  go_loopw [5, 12] (fun v i wr => ∃ k m A' c', k ≤ n ∧ i = .int .i64 (k : Nat) ∧ v = .slice A' m c' ∧ wr.ownsRow w1.heap.size 9 1 (.slice A' m c') m (strCells (allS (fs.take k) name)) ∧ m ≤ c' ∧ Ext w1 wr) (fun _ i _ => n - (intOf i).toNat)
  case atStart => exact ⟨0, 0, none, 0, Nat.zero_le _, rfl, rfl, World.ownsRow_nil _ _ _ _, Nat.le_refl _, Ext.refl _⟩
  case round =>
    obtain ⟨k, m, A', c', hk, rfl, rfl, hown, hmc, hbr⟩ := hrel
    by_cases hlt : k < n
    · have hl := hf.lenF
      have hlt' : k < fs.length := by omega
      obtain ⟨b, o, rfl, hc0, hc1⟩ := (hf.ext (hb1.trans hbr)).atF hlt'
      have hbd := hsz fs[k] (List.getElem_mem hlt')
      have hm1 := hown.1
      simp only [List.length_map, Nat.mul_one] at hm1
      have hmk := allS_len fs name k
      rw [hm1] at hmk
      have Hl := Lib.hid hl; clear hl
      have Hm := Lib.hid hm1; clear hm1
      by_cases hy : isN name fs[k] = true
      · have Hst := Lib.hid (allS_yes hlt' hy)
        unfold isN at hy
        generalize fs[k].1 = nm at *
        generalize fs[k].2 = vl at *
        go_wp2_with (first
          | (go_at_call 65; refine (field_lower _ _ (by assumption)).mono ?_; rintro e w2 ⟨rfl, hb2⟩; have hc2 := hb2.cells; have hz2 := hb2.size)
          | (at_builtin; refine wpList_app _ rfl (.tmp 21) (.tmp 24) 53 rfl w1 9 _ 1 16 Tryz.underlying53 infoStr rfl (by decide) _ _ _ rfl ((own_ext (hown.alloc _) hb2).alloc _) _ 1 1 [.string vl] rfl (Rd.one _ _ _ (by simp)) (strCells_one [vl]) (((hbr.alloc _).trans hb2).alloc _) (by omega) (by decide) ?_; intro A2 c2 w3 hown3 hb3 hle3))
        go_roundw
        case rel => exact ⟨k + 1, m + 1, A2, c2, by omega, by go_num, rfl, by rw [Hst.out]; simpa using hown3, hle3, hb3⟩
        case measure => simp [intOf]; omega
      · have hy : isN name fs[k] = false := by simpa using hy
        have Hst := Lib.hid (allS_no hlt' hy)
        unfold isN at hy
        generalize fs[k].1 = nm at *
        generalize fs[k].2 = vl at *
        go_wp2_with (first
          | (go_at_call 65; refine (field_lower _ _ (by assumption)).mono ?_; rintro e w2 ⟨rfl, hb2⟩; have hc2 := hb2.cells; have hz2 := hb2.size))
        go_roundw
        case rel => exact ⟨k + 1, m, A', c', by omega, by go_num, rfl, by rw [Hst.out]; exact own_ext (hown.alloc _) hb2, hmc, (hbr.alloc _).trans hb2⟩
        case measure => simp [intOf]; omega
    · have hk' : k = n := by omega
      have hl := hf.lenF
      go_wp2
      go_ret
      rw [List.take_of_length_le (by omega)] at hown
      exact ⟨_, _, _, rfl, Rd.of_own hown, hmc, hb1.trans hbr, own_base hown hb1.size⟩
end Go.Proofs.YtmckbcbdnckngaaGreatDoor

namespace Go.Proofs.YtmckbcbdnckngaaGreatDoor
open Go.RowKit

theorem Rd.setS {w : World} {b o n j : Nat} {xs : List ByteArray} (h : RdS w (some ⟨b, o, none⟩) n xs) (hj : j < n) (x : ByteArray) :
    RdS (w.setCell ⟨b, o + j, none⟩ (.string x)) (some ⟨b, o, none⟩) n (xs.set j x) := by
  have hl := h.lenS
  refine ⟨by simp [strCells, hl], fun _ => ⟨b, o, rfl, fun i u hu => ?_⟩⟩
  obtain ⟨b', o', e, hc⟩ := h.2 (by simp; omega)
  injection e with e
  injection e with e1 e2
  subst e1; subst e2
  have hi : i < xs.length := by
    rcases Nat.lt_or_ge i xs.length with h1 | h1
    · exact h1
    · rw [List.getElem?_eq_none (by simpa [strCells] using h1)] at hu; cases hu
  have hold : w.cell? ⟨b, o + i, none⟩ = some (.string xs[i]) := hc i _ (by simp [strCells, List.getElem?_eq_getElem hi])
  by_cases hij : i = j
  · subst hij
    rw [World.cell?_setCell_same _ _ _ hold]
    rw [show (strCells (xs.set i x))[i]? = some (.string x) by rw [strCells, List.getElem?_map, List.getElem?_set_self hi]; rfl] at hu
    exact hu
  · rw [World.cell?_setCell_other _ _ _ _ (by intro e; injection e with _ e; omega), hold]
    rw [show (strCells (xs.set j x))[i]? = some (.string xs[i]) by rw [strCells, List.getElem?_map, List.getElem?_set_ne (Ne.symm hij), List.getElem?_eq_getElem hi]; rfl] at hu
    exact hu
theorem set_map {f : ByteArray → ByteArray} {L : List ByteArray} {j : Nat} (h : j < L.length) :
    ((L.take j).map f ++ L.drop j).set j (f L[j]) = (L.take (j + 1)).map f ++ L.drop (j + 1) := by
  rw [List.set_append_right _ _ (by simp; omega)]
  have h1 : j - ((L.take j).map f).length = 0 := by simp; omega
  rw [h1, List.drop_eq_getElem_cons h, List.set_cons_zero, List.take_succ_eq_append_getElem h, List.map_append, List.append_assoc]
  rfl
theorem map_drop_at {f : ByteArray → ByteArray} {L : List ByteArray} {j : Nat} (h : j < L.length) (h' : j < ((L.take j).map f ++ L.drop j).length) :
    ((L.take j).map f ++ L.drop j)[j] = L[j] := by
  rw [List.getElem_append_right (by simp; omega)]
  simp
  congr 1
  omega
end Go.Proofs.YtmckbcbdnckngaaGreatDoor

namespace Go.Proofs.YtmckbcbdnckngaaGreatDoor
open Go.RowKit

theorem sumF_mem {fs : List Fd} {f : Fd} (h : f ∈ fs) : f.1.size + f.2.size ≤ sumF fs := by
  unfold sumF
  induction fs with
  | nil => cases h
  | cons g l ih =>
    simp only [List.map_cons, List.sum_cons]
    rcases List.mem_cons.1 h with rfl | h
    · omega
    · have := ih h; omega
theorem allS_mem {fs : List Fd} {x y : ByteArray} (h : y ∈ allS fs x) : y.size ≤ sumF fs := by
  obtain ⟨f, hf, rfl⟩ := List.mem_map.1 h
  have := sumF_mem (List.mem_filter.1 hf).1
  omega
theorem own_frozen {w : World} {base e k n m c : Nat} {A : Option Addr} {xs : List Value} (h : w.ownsRow base e k (.slice A m c) n xs) (h0 : 0 < n) :
    ∃ g, A = some ⟨g, 0, none⟩ ∧ base ≤ g ∧ g < w.heap.size ∧ ∀ q, w.frozen? ⟨g, q, none⟩ = false := by
  rcases h.2 with ⟨hv, h1⟩ | ⟨g, cap, cur, hv, hb, hg, _⟩
  · omega
  · obtain ⟨rfl, -, -⟩ := slice_inj hv
    exact ⟨g, rfl, hb, (Array.getElem?_eq_some_iff.1 hg).1, fun q => frozen_of_row _ _ _ _ _ hg⟩
theorem nrmV_size (s : ByteArray) : (nrmV s).size ≤ 2 * s.size := by
  rw [nrm_end]; show (List.toArray _).size ≤ _
  have := nrm_len s s.size
  simpa using this
theorem totS_nrm : ∀ l : List ByteArray, totS (l.map nrmV) ≤ 2 * totS l
  | [] => by simp [totS]
  | x :: l => by
    have h1 := nrmV_size x; have h2 := totS_nrm l
    simp only [totS, List.map_cons, List.sum_cons] at h2 ⊢
    omega
theorem jn_nrm (fs : List Fd) (x : ByteArray) : (jnS 44 ((allS fs x).map nrmV)).size ≤ 2 * (sumF fs + 2 * fs.length) := by
  have h1 := jnS_size 44 ((allS fs x).map nrmV); have h2 := totS_nrm (allS fs x); have h3 := totS_all fs x
  rw [List.length_map] at h1
  omega
theorem partK_size (fs : List Fd) (x : ByteArray) : (partK fs x).size ≤ x.size + 4 * (sumF fs + 2 * fs.length) + 3 := by
  unfold partK
  have h1 := jn_nrm fs x; have h2 := quoV_size (jnS 44 ((allS fs x).map nrmV))
  split
  · omega
  · rw [ByteArray.size_append, ByteArray.size_append, show (⟨#[61]⟩ : ByteArray).size = 1 from rfl]
    split
    · rw [show (⟨#[]⟩ : ByteArray).size = 0 from rfl]; omega
    · omega
theorem partK_none {fs : List Fd} {x : ByteArray} (h : allS fs x = []) : partK fs x = x := by unfold partK; rw [h]; rfl
theorem partK_some {fs : List Fd} {x : ByteArray} (h : allS fs x ≠ []) : partK fs x = x ++ ⟨#[61]⟩ ++ (if ctlS (jnS 44 ((allS fs x).map nrmV)) then ⟨#[]⟩ else quoV (jnS 44 ((allS fs x).map nrmV))) := by
  unfold partK; rw [if_neg (by simpa using h)]
theorem nrm_done {L : List ByteArray} : (L.take L.length).map nrmV ++ L.drop L.length = L.map nrmV := by simp
theorem rd_done {w : World} {A : Option Addr} {n j : Nat} {L : List ByteArray} (h : RdS w A n ((L.take j).map nrmV ++ L.drop j)) (hl : L.length = j) : RdS w A n (L.map nrmV) := by
  subst hl; rwa [nrm_done] at h
set_option maxHeartbeats 8000000 in
set_option maxRecDepth 100000 in
theorem vr_Key (A : Option Addr) (n c : Nat) (names : List ByteArray) (B : Option Addr) (m d : Nat) (fs : List Fd) (w : World)
    (hr : RdS w A n names) (hf : RdF w B m fs) (hn : n ≤ 1048576) (hm : m ≤ 1048576) (hns : ∀ x ∈ names, x.size ≤ 1048576) (hz : sumF fs ≤ 1048576) :
    Calls Tryz.prog 22 #[.slice A n c, .slice B m d] w fun e w' => e = .returned (.string (vkyS names fs)) ∧ Ext w w' := by
  have HAll := Lib.hid (fun x w' (hx : x.size ≤ 1048576) (h : Ext w w') => field_AllO B m d fs x w' (hf.ext h) (by omega) (by omega) (fun f hf => by have := sumF_mem hf; omega))
  have Hjn := Lib.hid (jn_nrm fs); have Hlf := Lib.hid hf.lenF; have Hln := Lib.hid hr.lenS
  have HK := Lib.hid (show vkyS names fs = jnS 38 ((names.take n).map (partK fs)) by rw [List.take_of_length_le (by rw [hr.lenS]; exact Nat.le_refl _)]; rfl)
  have Hal := Lib.hid (fun x => totS_all fs x)
  have Hst := Lib.hid (fun k (h : k < names.length) => map_step (partK fs) names k h)
  have Hsz := Lib.hid (fun k (hk : k ≤ n) => show totS ((names.take k).map (partK fs)) ≤ k * 16777216 by
    have h1 := totS_le ((names.take k).map (partK fs)) 16777216 (fun y hy => by
      obtain ⟨x, hx, rfl⟩ := List.mem_map.1 hy
      have h2 := partK_size fs x; have h3 := hns x (List.mem_of_mem_take hx); have h4 := hf.lenF
      omega)
    have h5 : ((names.take k).map (partK fs)).length ≤ k := by simp; omega
    exact Nat.le_trans h1 (Nat.mul_le_mul_right _ h5))
  generalize vkyS names fs = R at *
  go_enter Tryz.func22, Tryz.ntmps22
  go_wp2_with fail
  go_loopw [5, 14] (fun v i wr => ∃ k A' c', k ≤ n ∧ i = .int .i64 (k : Nat) ∧ v = .slice A' k c' ∧ wr.ownsRow w.heap.size 9 1 (.slice A' k c') k (strCells ((names.take k).map (partK fs))) ∧ k ≤ c' ∧ Ext w wr) (fun _ i _ => n - (intOf i).toNat)
  case atStart => exact ⟨0, none, 0, Nat.zero_le _, rfl, rfl, World.ownsRow_nil _ _ _ _, Nat.le_refl _, Ext.refl _⟩
  case round =>
    obtain ⟨k, A', c', hk, rfl, rfl, hown, hkc, hbr⟩ := hrel
    by_cases hlt : k < n
    · have hlt' : k < names.length := by have := Hln.out; omega
      obtain ⟨b, o, rfl, hc0⟩ := (hr.ext hbr).atS hlt'
      have hxs := hns names[k] (List.getElem_mem hlt')
      have Hst := Lib.hid (Hst.out k hlt')
      have Hal := Lib.hid (Hal.out names[k]); have Hjn := Lib.hid (Hjn.out names[k])
      have HAll := Lib.hid (fun w' h => HAll.out names[k] w' hxs h)
      have Hno := Lib.hid (@partK_none fs names[k]); have Hso := Lib.hid (@partK_some fs names[k])
      clear Hsz
      generalize names[k] = x at *
      generalize hwr0 : wr = wr0 at *
      clear hwr0
      go_wp2_with fail
      refine (HAll.out _ hbr).mono ?_; rintro e w2 ⟨A2, n2, c2, rfl, hr2, hnc2, hb2, hown2⟩; clear HAll
      have hl2 := hr2.lenS
      generalize hL : allS fs x = L at *
      by_cases h0 : n2 = 0
      · subst h0
        have hL0 : L = [] := List.eq_nil_of_length_eq_zero hl2
        have HN := Lib.hid (Hst.out.trans (by rw [Hno.out hL0]))
        clear hl2 Hno Hso Hst
        have hb2' := hbr.trans hb2
        have hown' := own_ext hown hb2
        go_wp2_with (at_builtin; refine wpList_app _ rfl (.tmp 24) (.tmp 26) 53 rfl w 9 _ 1 16 Tryz.underlying53 infoStr rfl (by decide) _ _ _ rfl (hown'.alloc _) _ 1 1 [.string x] rfl (Rd.one _ _ _ (by simp)) (by intro u hu; simp at hu; subst hu; rfl) (hb2'.alloc _) (by omega) (by decide) ?_; intro A3 c3 w3 hown3 hb3 hle3)
        go_roundw
        case rel => exact ⟨k + 1, A3, c3, by omega, by go_num, rfl, by rw [HN.out, cells_snoc]; exact hown3, hle3, hb3⟩
        case measure => simp [intOf]; omega
      · have hq0 : ((n2 : Int) == 0) = false := by simpa using h0
        have hLn : L ≠ [] := by intro e; rw [e] at hl2; simp at hl2; omega
        have HN := Lib.hid (Hst.out.trans (by rw [Hso.out hLn]))
        obtain ⟨g, rfl, hg0, hg1, hfz⟩ := own_frozen hown2 (by omega)
        
        have HR2 := Lib.hid (show RdS w2 (some ⟨g, 0, none⟩) n2 ((L.take 0).map nrmV ++ L.drop 0) by simpa using hr2)
        have hn2 : n2 ≤ 4194304 := by have := Hal.out; have := Hlf.out; omega
        have Hl2 := Lib.hid hl2; have HnL := Lib.hid (show ∀ j (h : j < L.length), L[j].size ≤ 1048576 from fun j h => Nat.le_trans (allS_mem (fs := fs) (x := x) (by rw [hL]; exact List.getElem_mem h)) hz)
        clear hl2 Hno Hso Hst hr2 hown2 hLn hL
        go_wp2_with fail
        go_loopw [30] (fun i wj => ∃ j, j ≤ n2 ∧ i = .int .i64 (j : Nat) ∧ RdS wj (some ⟨g, 0, none⟩) n2 ((L.take j).map nrmV ++ L.drop j) ∧ Ext wr0 wj ∧ g < wj.heap.size ∧ (∀ q, wj.frozen? ⟨g, q, none⟩ = false)) (fun i _ => n2 - (intOf i).toNat)
        case atStart => exact ⟨0, Nat.zero_le _, rfl, HR2.out, hb2, hg1, hfz⟩
        case round =>
          obtain ⟨j, hj, rfl, hrj, hbj, hgj, hfj⟩ := hrel
          by_cases hjt : j < n2
          · have hjL : j < L.length := by have := Hl2.out; omega
            have hlj := hrj.lenS
            obtain ⟨b9, o9, hbo, hcj⟩ := hrj.atS (k := j) (by omega)
            rw [map_drop_at hjL] at hcj
            injection hbo with hbo
            injection hbo with e1 e2
            subst e1; subst e2
            rw [Nat.zero_add] at hcj
            have hLs := HnL.out j hjL
            have Hset := Lib.hid (@set_map nrmV L j hjL)
            have Hrj := Lib.hid hrj
            clear hrj hlj
            generalize L[j] = y at *
            go_wp2_with fail
            refine (vr_normal y _ (by omega)).mono ?_; rintro e w5 ⟨rfl, hb5⟩
            have hcj5 := hb5.cell hcj
            have hfj5 : ∀ q, w5.frozen? ⟨g, q, none⟩ = false := fun q => (hb5.frozens g q hgj).trans (hfj q)
            have hgj5 := Nat.lt_of_lt_of_le hgj hb5.size
            have hfj6 := hfj5 j
            go_wp2_with fail
            go_roundw
            case rel =>
              refine ⟨j + 1, by omega, by go_num, ?_, Ext.setCell (hbj.trans hb5) (p := ⟨g, j, none⟩) hg0 _, by simpa [World.setCell] using hgj5, fun q => by rw [World.frozen?_setCell]; exact hfj5 q⟩
              have := Rd.setS (Hrj.out.ext hb5) hjt (nrmV y)
              rw [Nat.zero_add] at this
              rw [Hset.out] at this
              exact this
            case measure => simp [intOf]; omega
          · obtain rfl : j = n2 := by omega
            have hrN := rd_done hrj Hl2.out
            have hJ : totS (L.map nrmV) + j ≤ 70368744177664 := by have h1 := totS_nrm L; have h2 := Hal.out; have h3 := Hlf.out; omega
            have hJs : (jnS 44 (L.map nrmV)).size ≤ 6291456 := by have h1 := Hjn.out; have h2 := Hlf.out; omega
            clear hrj hjt hj HnL Hal HR2
            go_wp2_with fail
            refine (str_Join1 _ _ _ _ 44 _ hrN (by omega) hJ).mono ?_; rintro e w6 ⟨rfl, hb6⟩
            generalize jnS 44 (L.map nrmV) = JJ at *
            go_wp2_with fail
            refine (syn_Quote _ _ (by omega)).mono ?_; rintro e w7 ⟨rfl, hb7⟩
            have hE := hbr.trans ((hbj.trans hb6).trans hb7)
            have hown7 := own_ext hown ((hbj.trans hb6).trans hb7)
            have hqs := quoV_size JJ
            have h1 : ∀ w, (Op.stringOp .add x ⟨#[61]⟩).run Tryz.prog w = .ok (.string (x ++ ⟨#[61]⟩)) w := fun w => run_string_add_sum w _ _ (by rw [show (⟨#[61]⟩ : ByteArray).size = 1 from rfl]; omega)
            cases hct : ctlS JJ
            · rw [hct, if_neg (by simp)] at HN
              rw [show qtV JJ = .tuple #[.string (quoV JJ), .nilIface] by unfold qtV; rw [hct]; rfl]
              have h2 : ∀ w, (Op.stringOp .add (x ++ ⟨#[61]⟩) (quoV JJ)).run Tryz.prog w = .ok (.string (x ++ ⟨#[61]⟩ ++ quoV JJ)) w := fun w => run_string_add_sum w _ _ (by rw [ByteArray.size_append, show (⟨#[61]⟩ : ByteArray).size = 1 from rfl]; omega)
              clear hct hqs hJs hJ hrN hown
              go_wp2_with (first | (at_builtin; refine wpList_app _ rfl (.tmp 50) (.tmp 55) 53 rfl w 9 _ 1 16 Tryz.underlying53 infoStr rfl (by decide) _ _ _ rfl (hown7.alloc _) _ 1 1 [.string (x ++ ⟨#[61]⟩ ++ quoV JJ)] rfl (Rd.one _ _ _ (by simp)) (by intro u hu; simp at hu; subst hu; rfl) (hE.alloc _) (by omega) (by decide) ?_; intro A3 c3 w3 hown3 hb3 hle3))
              go_roundw
              case rel => exact ⟨k + 1, A3, c3, by omega, by go_num, rfl, by rw [HN.out, cells_snoc]; exact hown3, hle3, hb3⟩
              case measure => simp [intOf]; omega
            · rw [hct, if_pos rfl] at HN
              rw [show qtV JJ = .tuple #[.string ⟨#[]⟩, errV 2] by unfold qtV; rw [hct]; rfl, show errV 2 = .iface 63 (.int .i64 2) from rfl]
              have h2 : ∀ w, (Op.stringOp .add (x ++ ⟨#[61]⟩) ⟨#[]⟩).run Tryz.prog w = .ok (.string (x ++ ⟨#[61]⟩ ++ ⟨#[]⟩)) w := fun w => run_string_add_sum w _ _ (by rw [ByteArray.size_append, show (⟨#[61]⟩ : ByteArray).size = 1 from rfl, show (⟨#[]⟩ : ByteArray).size = 0 from rfl]; omega)
              clear hct hqs hJs hJ hrN hown
              go_wp2_with (first | (at_builtin; refine wpList_app _ rfl (.tmp 50) (.tmp 55) 53 rfl w 9 _ 1 16 Tryz.underlying53 infoStr rfl (by decide) _ _ _ rfl (hown7.alloc _) _ 1 1 [.string (x ++ ⟨#[61]⟩ ++ ⟨#[]⟩)] rfl (Rd.one _ _ _ (by simp)) (by intro u hu; simp at hu; subst hu; rfl) (hE.alloc _) (by omega) (by decide) ?_; intro A3 c3 w3 hown3 hb3 hle3))
              go_roundw
              case rel => exact ⟨k + 1, A3, c3, by omega, by go_num, rfl, by rw [HN.out, cells_snoc]; exact hown3, hle3, hb3⟩
              case measure => simp [intOf]; omega
    · obtain rfl : k = n := by omega
      have hJ := Hsz.out k (Nat.le_refl _)
      clear hlt hk Hsz Hst HAll
      go_wp2_with fail
      refine (str_Join1 _ _ _ _ 38 _ (Rd.of_own hown) hkc (by omega)).mono ?_; rintro e w6 ⟨rfl, hb6⟩
      go_wp2_with fail
      go_ret
      exact ⟨by rw [HK.out, List.map_take]; rfl, hbr.trans hb6⟩
end Go.Proofs.YtmckbcbdnckngaaGreatDoor

namespace Go.Proofs.YtmckbcbdnckngaaGreatDoor
open Go.RowKit

theorem chs_hit {v : Ver} {fs : List Fd} {l : List (Vr × VrM)} {k : Nat} (h : k < l.length) (hq : (vkyS l[k].1.names fs == l[k].1.key) = true) :
    chsS v fs k ((l.map (·.1)).drop k) = ((if l[k].1.tag.size == 0 then remS v.fs x_et else setS x_et l[k].1.tag v.fs), l[k].1.body, k + 1) := by
  rw [List.drop_eq_getElem_cons (by simpa using h), List.getElem_map]
  unfold chsS; rw [if_pos hq]
theorem chs_step {v : Ver} {fs : List Fd} {l : List (Vr × VrM)} {k : Nat} (h : k < l.length) (hq : (vkyS l[k].1.names fs == l[k].1.key) = false) :
    chsS v fs k ((l.map (·.1)).drop k) = chsS v fs (k + 1) ((l.map (·.1)).drop (k + 1)) := by
  rw [List.drop_eq_getElem_cons (by simpa using h), List.getElem_map]
  conv => lhs; unfold chsS
  rw [if_neg (by rw [hq]; simp)]
theorem chs_end {v : Ver} {fs : List Fd} {l : List (Vr × VrM)} {k : Nat} (h : l.length ≤ k) : chsS v fs k ((l.map (·.1)).drop k) = (v.fs, v.body, 0) := by
  rw [List.drop_of_length_le (by simpa using h)]; rfl
set_option maxHeartbeats 16000000 in
set_option maxRecDepth 100000 in
theorem or_chosen (Q : Nat → Prop) (m : MV) (rA : Option Addr) (rn rc : Nat) (rfs : List Fd) (w : World) (h : m.At Q w) (hr : RdF w rA rn rfs) (hQ : ∀ i, Q i → i < w.heap.size)
    (hf : m.f.length ≤ 1048576) (hT : sumF m.f ≤ 1048576) (hv : m.vars.length ≤ 1048576) (hx : ∀ x ∈ m.vars, x.1.names.length ≤ 1048576 ∧ (∀ n ∈ x.1.names, n.size ≤ 1048576) ∧ x.1.tag.size ≤ 1048576)
    (hrn : rn ≤ 1048576) (hrT : sumF rfs ≤ 1048576) (hg : Gl w) :
    Calls Tryz.prog 106 #[.agg m.cells.toArray, .slice rA rn rc] w fun e w' => ∃ s1 s2 : Sl, e = .returned (.tuple #[s1.v, s2.v, .int .i64 ((chS m.ver rfs).2.2 : Nat)]) ∧
      RS Q w' 2 s1 (fldCells (chS m.ver rfs).1) ∧ RS Q w' 1 s2 (bytC (chS m.ver rfs).2.1) ∧ Ext w w' := by
  have hfl := h.fs.rd.lenF
  have hvl := h.vlen
  have hbz := bszF m.f
  have HRm := Lib.hid (fun w' (hh : Ext w w') => field_Remove m.fs.A m.fs.n m.fs.c m.f x_et w' (h.fs.rd.ext hh) (by omega) (by decide) (fun f hf => ⟨by have := (hbz f hf).1; omega, by have := (hbz f hf).2; omega⟩))
  have HSt := Lib.hid (fun w' tag (hh : Ext w w') => field_Set m.fs.A m.fs.n m.fs.c m.f x_et tag w' (h.fs.rd.ext hh) (by omega) (by decide) (fun f hf => ⟨by have := (hbz f hf).1; omega, by have := (hbz f hf).2; omega⟩))
  have HKy := Lib.hid (fun w' names (nm : Sl) (hh : Ext w w') (h1 : RdS w' nm.A nm.n names) (h2 : nm.n ≤ 1048576) (h3 : ∀ n ∈ names, n.size ≤ 1048576) => vr_Key nm.A nm.n nm.c names rA rn rc rfs w' h1 (hr.ext hh) h2 hrn h3 hrT)
  have HAt := Lib.hid h; have Hx := Lib.hid hx; have Hvl := Lib.hid hvl; have HQ := Lib.hid hQ
  have hvn : m.vr.n ≤ 1048576 := by omega
  have HC0 := Lib.hid (show chsS m.ver rfs 0 ((m.vars.map (·.1)).drop 0) = chS m.ver rfs from rfl)
  have Hhit := Lib.hid (fun k h => @chs_hit m.ver rfs m.vars k h); have Hstep := Lib.hid (fun k h => @chs_step m.ver rfs m.vars k h); have Hend := Lib.hid (fun k h => @chs_end m.ver rfs m.vars k h)
  have HE1 : m.ver.fs = m.f := rfl
  have HE2 : m.ver.body = m.body := rfl
  rw [HE1] at Hhit Hend
  rw [HE2] at Hend
  generalize chS m.ver rfs = CH at *
  generalize hcf : (fun k => chsS m.ver rfs k ((m.vars.map (·.1)).drop k)) = CF at *
  have HCF := Lib.hid (fun k => show chsS m.ver rfs k ((m.vars.map (·.1)).drop k) = CF k from congrFun hcf k)
  have Hhitb := Lib.hid (fun k h hq => (HCF.out k).symm.trans (Hhit.out k h hq))
  have Hstepb := Lib.hid (fun k h hq => (HCF.out k).symm.trans ((Hstep.out k h hq).trans (HCF.out (k + 1))))
  have Hendb := Lib.hid (fun k h => (HCF.out k).symm.trans (Hend.out k h))
  have HC0b := Lib.hid ((HCF.out 0).symm.trans HC0.out)
  clear Hhit Hstep Hend HC0 hfl hbz h hx hvl hQ hf hT hv hr hrT hg HE1 HE2 HCF hcf
  obtain ⟨addr, status, f, body, vars, ⟨fA, fn, fc⟩, ⟨bA, bn, bc⟩, ⟨vA, vn, vc⟩⟩ := m
  simp only [MV.cells, Sl.v] at *
  have HX := Lib.hid (Blk.new w 36 #[.string addr, .int .i64 status, .slice fA fn fc, .slice bA bn bc, .slice vA vn vc])
  have HW := Lib.hid ((Ext.refl w).alloc (.cells #[.string addr, .int .i64 status, .slice fA fn fc, .slice bA bn bc, .slice vA vn vc] 36))
  have HS := Lib.hid (fun w' (hh : Ext (w.alloc (.cells #[.string addr, .int .i64 status, .slice fA fn fc, .slice bA bn bc, .slice vA vn vc] 36)) w') => (⟨(HX.out.ext hh).cell 2, (HX.out.ext hh).cell 3, (HX.out.ext hh).cell 4⟩ : w'.cell? ⟨w.heap.size, 2, none⟩ = some (.slice fA fn fc) ∧ w'.cell? ⟨w.heap.size, 3, none⟩ = some (.slice bA bn bc) ∧ w'.cell? ⟨w.heap.size, 4, none⟩ = some (.slice vA vn vc)))
  obtain ⟨x2, x3, x4⟩ := HS.out _ (Ext.refl _)
  go_enter Tryz.func106, Tryz.ntmps106
  go_wp2_with fail
  clear x2 x3 x4
  generalize w.alloc (.cells #[.string addr, .int .i64 status, .slice fA fn fc, .slice bA bn bc, .slice vA vn vc] 36) = Wb at *
  go_loopw [12] (fun i wr => ∃ k : Nat, k ≤ vn ∧ i = .int .i64 (k : Nat) ∧ CF k = CH ∧ Ext Wb wr) (fun i _ => vn - (intOf i).toNat)
  case atStart => exact ⟨0, Nat.zero_le _, rfl, HC0b.out, Ext.refl _⟩
  case round =>
    obtain ⟨k, hk, rfl, hch, hbr⟩ := hrel
    by_cases hlt : k < vn
    · have hlt' : k < vars.length := by have := Hvl.out; omega
      obtain ⟨b, o, hbo, c0, c1, c2, c3⟩ := (HAt.out.ext (HW.out.trans hbr)).var hlt'
      simp only at hbo
      subst hbo
      have Hh := Lib.hid (fun hq => hch.symm.trans (Hhitb.out k hlt' hq)); have Hs := Lib.hid (fun hq => (Hstepb.out k hlt' hq).symm.trans hch)
      have hxk := Hx.out _ (List.getElem_mem hlt')
      have HVk := Lib.hid (HAt.out.each _ (List.getElem_mem hlt'))
      clear hch
      generalize vars[k] = x at *
      obtain ⟨⟨names, key, tag, xb⟩, ⟨⟨nA, nn, nc⟩, ⟨dA, dn, dc⟩⟩⟩ := x
      simp only [Sl.v] at *
      have hnn : names.length = nn := HVk.out.nm.rd.lenS
      have HK := Lib.hid (fun w' (hh : Ext w w') => HKy.out w' names ⟨nA, nn, nc⟩ hh (HVk.out.nm.rd.ext hh) (by simp only; omega) hxk.2.1)
      have htz := hxk.2.2
      simp only at HK
      clear hxk hnn
      have HXv := Lib.hid (Blk.new wr 58 #[.slice nA nn nc, .string key, .string tag, .slice dA dn dc])
      have hE := hbr.alloc (.cells #[.slice nA nn nc, .string key, .string tag, .slice dA dn dc] 58)
      rw [beqB] at Hh Hs
      go_wp2_with fail
      have HSv := Lib.hid (fun w' (hh : Ext (wr.alloc (.cells #[.slice nA nn nc, .string key, .string tag, .slice dA dn dc] 58)) w') => (⟨(HXv.out.ext hh).cell 0, (HXv.out.ext hh).cell 1, (HXv.out.ext hh).cell 2, (HXv.out.ext hh).cell 3⟩ : w'.cell? ⟨wr.heap.size, 0, none⟩ = some (.slice nA nn nc) ∧ w'.cell? ⟨wr.heap.size, 1, none⟩ = some (.string key) ∧ w'.cell? ⟨wr.heap.size, 2, none⟩ = some (.string tag) ∧ w'.cell? ⟨wr.heap.size, 3, none⟩ = some (.slice dA dn dc)))
      have hV := (Ext.refl (wr.alloc (.cells #[.slice nA nn nc, .string key, .string tag, .slice dA dn dc] 58))).drew
      generalize wr.alloc (.cells #[.slice nA nn nc, .string key, .string tag, .slice dA dn dc] 58) = Wv at *
      generalize wr.heap.size = bv at *
      generalize hky : vkyS names rfs = ky at *
      clear hky c0 c1 c2 c3
      by_cases hkk : ky = key
      rotate_left
      · have hq : (ky.toList == key.toList) = false := Bool.eq_false_iff.2 (fun e => hkk (eqS_iff.1 e))
        have HV := Lib.hid (Hs.out (by simp [hkk]))
        clear hkk Hh Hs
        refine wp_region_held_drew (S := (fun w' => w'.cell? ⟨bv, 0, none⟩ = some (.slice nA nn nc) ∧ w'.cell? ⟨bv, 1, none⟩ = some (.string key))) (by kernel_rfl) ?_ (fun hHeld => ?_)
        · (try dsimp only); exact ⟨(HSv.out _ hV).1, (HSv.out _ hV).2.1⟩
        refine wpAnyH_take (i := 0) (oi := { dst := some 17, op := _, type := _, pos := _, after := _, guard := _ }) (v := ?_) rfl (by kernel_rfl) (by kernel_rfl) (by kernel_rfl) (fun _ _ _ h => h) (Or.inl ⟨by rfl, ?_⟩) (by assumption) ?_
        rotate_left
        · (intro w hSw; (try dsimp only at hSw); go_simp; (try with_reducible rfl))
        (try simp only [Act.put, List.setIfInBounds_toArray, List.set_cons_zero, List.set_cons_succ])
        refine wpAnyH_take (i := 1) (oi := { dst := some 18, op := _, type := _, pos := _, after := _, guard := _ }) (v := ?_) rfl (by kernel_rfl) (by kernel_rfl) (by kernel_rfl) (fun _ _ _ h => h) (Or.inl ⟨by rfl, ?_⟩) (by assumption) ?_
        rotate_left
        · (intro w hSw; (try dsimp only at hSw); go_simp; (try with_reducible rfl))
        (try simp only [Act.put, List.setIfInBounds_toArray, List.set_cons_zero, List.set_cons_succ])
        refine wpAnyH_take (i := 2) (oi := { dst := some 19, op := _, type := _, pos := _, after := _, guard := _ }) (v := ?_) rfl (by kernel_rfl) (by kernel_rfl) (by kernel_rfl) (fun _ _ _ h => h) (Or.inl ⟨by rfl, ?_⟩) (by assumption) ?_
        rotate_left
        · (intro w hSw; (try dsimp only at hSw); go_simp; (try with_reducible rfl))
        (try simp only [Act.put, List.setIfInBounds_toArray, List.set_cons_zero, List.set_cons_succ])
        refine wpAnyH_take (i := 4) (oi := { dst := some 21, op := _, type := _, pos := _, after := _, guard := _ }) (v := ?_) rfl (by kernel_rfl) (by kernel_rfl) (by kernel_rfl) (fun _ _ _ h => h) (Or.inl ⟨by rfl, ?_⟩) (by assumption) ?_
        rotate_left
        · (intro w hSw; (try dsimp only at hSw); go_simp; (try with_reducible rfl))
        (try simp only [Act.put, List.setIfInBounds_toArray, List.set_cons_zero, List.set_cons_succ])
        refine wpAnyH_take (i := 5) (oi := { dst := some 22, op := _, type := _, pos := _, after := _, guard := _ }) (v := ?_) rfl (by kernel_rfl) (by kernel_rfl) (by kernel_rfl) (fun _ _ _ h => h) (Or.inl ⟨by rfl, ?_⟩) (by assumption) ?_
        rotate_left
        · (intro w hSw; (try dsimp only at hSw); go_simp; (try with_reducible rfl))
        (try simp only [Act.put, List.setIfInBounds_toArray, List.set_cons_zero, List.set_cons_succ])
        refine wpAnyH_ready (rs := [3]) (by kernel_rfl) (by simp) ?_
        refine AllReadyH.cons (o := { dst := some 20, op := _, type := _, pos := _, after := _, guard := _ }) rfl (fun K hK => ?_) AllReadyH.nil
        go_simp
        refine (HK.out _ (HW.out.trans (hE.trans hV))).mono ?_; rintro e w4 ⟨rfl, hb4⟩; replace hV := hV.trans hb4; clear hb4
        try go_wp2_with fail
        refine hK.out _ _ ?_ (fun hHeld => ?_)
        · (try dsimp only); exact ⟨(HSv.out _ hV).1, (HSv.out _ hV).2.1⟩
        clear hK K
        (try simp only [Act.put, List.setIfInBounds_toArray, List.set_cons_zero, List.set_cons_succ])
        refine wpAnyH_take (i := 6) (oi := { dst := some 23, op := _, type := _, pos := _, after := _, guard := _ }) (v := ?_) rfl (by kernel_rfl) (by kernel_rfl) (by kernel_rfl) (fun _ _ _ h => h) (Or.inl ⟨by rfl, ?_⟩) (by assumption) ?_
        rotate_left
        · (intro w hSw; (try dsimp only at hSw); go_simp; (try with_reducible rfl))
        (try simp only [Act.put, List.setIfInBounds_toArray, List.set_cons_zero, List.set_cons_succ])
        refine wpAnyH_done (by kernel_rfl) ?_ _
        go_wp2_with fail
        first | go_roundw | refine ⟨?rel, ?measure⟩
        case rel => exact ⟨k + 1, by omega, by go_num, HV.out, hE.trans hV⟩
        case measure => simp [intOf]; omega
      · have hq : (ky.toList == key.toList) = true := eqS_iff.2 hkk
        have HV := Lib.hid (Hh.out (by simp [hkk]))
        clear hkk Hh Hs
        refine wp_region_held_drew (S := (fun w' => w'.cell? ⟨bv, 0, none⟩ = some (.slice nA nn nc) ∧ w'.cell? ⟨bv, 1, none⟩ = some (.string key))) (by kernel_rfl) ?_ (fun hHeld => ?_)
        · (try dsimp only); exact ⟨(HSv.out _ hV).1, (HSv.out _ hV).2.1⟩
        refine wpAnyH_take (i := 0) (oi := { dst := some 17, op := _, type := _, pos := _, after := _, guard := _ }) (v := ?_) rfl (by kernel_rfl) (by kernel_rfl) (by kernel_rfl) (fun _ _ _ h => h) (Or.inl ⟨by rfl, ?_⟩) (by assumption) ?_
        rotate_left
        · (intro w hSw; (try dsimp only at hSw); go_simp; (try with_reducible rfl))
        (try simp only [Act.put, List.setIfInBounds_toArray, List.set_cons_zero, List.set_cons_succ])
        refine wpAnyH_take (i := 1) (oi := { dst := some 18, op := _, type := _, pos := _, after := _, guard := _ }) (v := ?_) rfl (by kernel_rfl) (by kernel_rfl) (by kernel_rfl) (fun _ _ _ h => h) (Or.inl ⟨by rfl, ?_⟩) (by assumption) ?_
        rotate_left
        · (intro w hSw; (try dsimp only at hSw); go_simp; (try with_reducible rfl))
        (try simp only [Act.put, List.setIfInBounds_toArray, List.set_cons_zero, List.set_cons_succ])
        refine wpAnyH_take (i := 2) (oi := { dst := some 19, op := _, type := _, pos := _, after := _, guard := _ }) (v := ?_) rfl (by kernel_rfl) (by kernel_rfl) (by kernel_rfl) (fun _ _ _ h => h) (Or.inl ⟨by rfl, ?_⟩) (by assumption) ?_
        rotate_left
        · (intro w hSw; (try dsimp only at hSw); go_simp; (try with_reducible rfl))
        (try simp only [Act.put, List.setIfInBounds_toArray, List.set_cons_zero, List.set_cons_succ])
        refine wpAnyH_take (i := 4) (oi := { dst := some 21, op := _, type := _, pos := _, after := _, guard := _ }) (v := ?_) rfl (by kernel_rfl) (by kernel_rfl) (by kernel_rfl) (fun _ _ _ h => h) (Or.inl ⟨by rfl, ?_⟩) (by assumption) ?_
        rotate_left
        · (intro w hSw; (try dsimp only at hSw); go_simp; (try with_reducible rfl))
        (try simp only [Act.put, List.setIfInBounds_toArray, List.set_cons_zero, List.set_cons_succ])
        refine wpAnyH_take (i := 5) (oi := { dst := some 22, op := _, type := _, pos := _, after := _, guard := _ }) (v := ?_) rfl (by kernel_rfl) (by kernel_rfl) (by kernel_rfl) (fun _ _ _ h => h) (Or.inl ⟨by rfl, ?_⟩) (by assumption) ?_
        rotate_left
        · (intro w hSw; (try dsimp only at hSw); go_simp; (try with_reducible rfl))
        (try simp only [Act.put, List.setIfInBounds_toArray, List.set_cons_zero, List.set_cons_succ])
        refine wpAnyH_ready (rs := [3]) (by kernel_rfl) (by simp) ?_
        refine AllReadyH.cons (o := { dst := some 20, op := _, type := _, pos := _, after := _, guard := _ }) rfl (fun K hK => ?_) AllReadyH.nil
        go_simp
        refine (HK.out _ (HW.out.trans (hE.trans hV))).mono ?_; rintro e w4 ⟨rfl, hb4⟩; replace hV := hV.trans hb4; clear hb4
        try go_wp2_with fail
        refine hK.out _ _ ?_ (fun hHeld => ?_)
        · (try dsimp only); exact ⟨(HSv.out _ hV).1, (HSv.out _ hV).2.1⟩
        clear hK K
        (try simp only [Act.put, List.setIfInBounds_toArray, List.set_cons_zero, List.set_cons_succ])
        refine wpAnyH_take (i := 6) (oi := { dst := some 23, op := _, type := _, pos := _, after := _, guard := _ }) (v := ?_) rfl (by kernel_rfl) (by kernel_rfl) (by kernel_rfl) (fun _ _ _ h => h) (Or.inl ⟨by rfl, ?_⟩) (by assumption) ?_
        rotate_left
        · (intro w hSw; (try dsimp only at hSw); go_simp; (try with_reducible rfl))
        (try simp only [Act.put, List.setIfInBounds_toArray, List.set_cons_zero, List.set_cons_succ])
        refine wpAnyH_done (by kernel_rfl) ?_ _
        obtain ⟨v0, v1, v2, v3⟩ := HSv.out _ hV
        have hwk : IntKind.i64.wrap ((k : Int) + 1) = ((k + 1 : Nat) : Int) := by rw [IntWalk.i64_in _ (by omega)]; omega
        have hEw := HW.out.trans (hE.trans hV)
        by_cases htg : tag = ⟨#[]⟩
        · have t1 := isE_yes htg
          have t2 : (tag.toList == []) = true := by rw [ByteArray.toList_eq, htg]; rfl
          obtain rfl : CH = (remS f x_et, xb, k + 1) := by rw [HV.out]; simp only [htg]; rfl
          clear htg
          go_wp2_with fail
          clear v0 v1 v2 v3
          replace hV := hV.drew
          refine wp_region_held_drew (S := (fun w' => w'.cell? ⟨w.heap.size, 2, none⟩ = some (.slice fA fn fc) ∧ w'.cell? ⟨bv, 2, none⟩ = some (.string tag) ∧ w'.cell? ⟨bv, 3, none⟩ = some (.slice dA dn dc))) (by kernel_rfl) ?_ (fun hHeld => ?_)
          · (try dsimp only); exact ⟨(HS.out _ (hE.trans hV)).1, (HSv.out _ hV).2.2.1, (HSv.out _ hV).2.2.2⟩
          refine wpAnyH_take (i := 0) (oi := { dst := some 27, op := _, type := _, pos := _, after := _, guard := _ }) (v := ?_) rfl (by kernel_rfl) (by kernel_rfl) (by kernel_rfl) (fun _ _ _ h => h) (Or.inl ⟨by rfl, ?_⟩) (by assumption) ?_
          rotate_left
          · (intro w hSw; (try dsimp only at hSw); go_simp; (try with_reducible rfl))
          (try simp only [Act.put, List.setIfInBounds_toArray, List.set_cons_zero, List.set_cons_succ])
          refine wpAnyH_take (i := 1) (oi := { dst := some 28, op := _, type := _, pos := _, after := _, guard := _ }) (v := ?_) rfl (by kernel_rfl) (by kernel_rfl) (by kernel_rfl) (fun _ _ _ h => h) (Or.inl ⟨by rfl, ?_⟩) (by assumption) ?_
          rotate_left
          · (intro w hSw; (try dsimp only at hSw); go_simp; (try with_reducible rfl))
          (try simp only [Act.put, List.setIfInBounds_toArray, List.set_cons_zero, List.set_cons_succ])
          refine wpAnyH_take (i := 3) (oi := { dst := some 30, op := _, type := _, pos := _, after := _, guard := _ }) (v := ?_) rfl (by kernel_rfl) (by kernel_rfl) (by kernel_rfl) (fun _ _ _ h => h) (Or.inl ⟨by rfl, ?_⟩) (by assumption) ?_
          rotate_left
          · (intro w hSw; (try dsimp only at hSw); go_simp; (try with_reducible rfl))
          (try simp only [Act.put, List.setIfInBounds_toArray, List.set_cons_zero, List.set_cons_succ])
          refine wpAnyH_take (i := 4) (oi := { dst := some 31, op := _, type := _, pos := _, after := _, guard := _ }) (v := ?_) rfl (by kernel_rfl) (by kernel_rfl) (by kernel_rfl) (fun _ _ _ h => h) (Or.inl ⟨by rfl, ?_⟩) (by assumption) ?_
          rotate_left
          · (intro w hSw; (try dsimp only at hSw); go_simp; (try with_reducible rfl))
          (try simp only [Act.put, List.setIfInBounds_toArray, List.set_cons_zero, List.set_cons_succ])
          refine wpAnyH_take (i := 5) (oi := { dst := some 32, op := _, type := _, pos := _, after := _, guard := _ }) (v := ?_) rfl (by kernel_rfl) (by kernel_rfl) (by kernel_rfl) (fun _ _ _ h => h) (Or.inl ⟨by rfl, ?_⟩) (by assumption) ?_
          rotate_left
          · (intro w hSw; (try dsimp only at hSw); go_simp; (try with_reducible rfl))
          (try simp only [Act.put, List.setIfInBounds_toArray, List.set_cons_zero, List.set_cons_succ])
          refine wpAnyH_take (i := 6) (oi := { dst := some 33, op := _, type := _, pos := _, after := _, guard := _ }) (v := ?_) rfl (by kernel_rfl) (by kernel_rfl) (by kernel_rfl) (fun _ _ _ h => h) (Or.inl ⟨by rfl, ?_⟩) (by assumption) ?_
          rotate_left
          · (intro w hSw; (try dsimp only at hSw); go_simp; (try with_reducible rfl))
          (try simp only [Act.put, List.setIfInBounds_toArray, List.set_cons_zero, List.set_cons_succ])
          refine wpAnyH_ready (rs := [2]) (by kernel_rfl) (by simp) ?_
          refine AllReadyH.cons (o := { dst := some 29, op := _, type := _, pos := _, after := _, guard := _ }) rfl (fun K hK => ?_) AllReadyH.nil
          go_simp
          refine (HRm.out _ (HW.out.trans (hE.trans hV))).mono ?_; rintro e w6 ⟨A6, n6, c6, rfl, -, hle6, hb6, hown6⟩; have hown6 := Lib.hid hown6; replace hV := hV.trans hb6; clear hb6
          try go_wp2_with fail
          refine hK.out _ _ ?_ (fun hHeld => ?_)
          · (try dsimp only); exact ⟨(HS.out _ (hE.trans hV)).1, (HSv.out _ hV).2.2.1, (HSv.out _ hV).2.2.2⟩
          clear hK K
          (try simp only [Act.put, List.setIfInBounds_toArray, List.set_cons_zero, List.set_cons_succ])
          refine wpAnyH_take (i := 7) (oi := { dst := some 4, op := _, type := _, pos := _, after := _, guard := _ }) (v := ?_) rfl (by kernel_rfl) (by kernel_rfl) (by kernel_rfl) (fun _ _ _ h => h) (Or.inl ⟨by rfl, ?_⟩) (by assumption) ?_
          rotate_left
          · (intro w hSw; (try dsimp only at hSw); go_simp; (try with_reducible rfl))
          (try simp only [Act.put, List.setIfInBounds_toArray, List.set_cons_zero, List.set_cons_succ])
          refine wpAnyH_take (i := 8) (oi := { dst := some 5, op := _, type := _, pos := _, after := _, guard := _ }) (v := ?_) rfl (by kernel_rfl) (by kernel_rfl) (by kernel_rfl) (fun _ _ _ h => h) (Or.inl ⟨by rfl, ?_⟩) (by assumption) ?_
          rotate_left
          · (intro w hSw; (try dsimp only at hSw); go_simp; (try with_reducible rfl))
          (try simp only [Act.put, List.setIfInBounds_toArray, List.set_cons_zero, List.set_cons_succ])
          refine wpAnyH_take (i := 9) (oi := { dst := some 6, op := _, type := _, pos := _, after := _, guard := _ }) (v := ?_) rfl (by kernel_rfl) (by kernel_rfl) (by kernel_rfl) (fun _ _ _ h => h) (Or.inl ⟨by rfl, ?_⟩) (by assumption) ?_
          rotate_left
          · (intro w hSw; (try dsimp only at hSw); go_simp; (try with_reducible rfl))
          (try simp only [Act.put, List.setIfInBounds_toArray, List.set_cons_zero, List.set_cons_succ])
          refine wpAnyH_done (by kernel_rfl) ?_ _
          go_wp2_with fail
          refine bodyPost_ret (v := .tuple #[.slice A6 n6 c6, .slice dA dn dc, .int .i64 ((k + 1 : Nat) : Int)]) (by simp [results, Tryz.results106, go_sem]) rfl ?_
          have hEf := HW.out.trans (hE.trans hV)
          refine ⟨⟨A6, n6, c6⟩, ⟨dA, dn, dc⟩, rfl, ⟨Rd.of_own (hown6.out), fun h1 a ha hb => ?_, hle6⟩, HVk.out.bd.ext hEf, hEf⟩
          have h9 := (hown6.out.lt a.block (by simp only at ha; subst ha; rfl)).1
          have h8 := HQ.out _ hb
          have h7 := hEw.drew.size
          omega
        · have t1 := isE_no htg
          have t2 : (tag.toList == []) = false := by
            rw [Bool.eq_false_iff]; intro e; rw [beq_iff_eq, ByteArray.toList_eq] at e; exact htg (bytes_ext e)
          obtain rfl : CH = (setS x_et tag f, xb, k + 1) := by
            rw [HV.out, if_neg (by simp; intro e; exact htg e)]
          clear htg
          go_wp2_with fail
          clear v0 v1 v2 v3
          replace hV := hV.drew
          refine wp_region_held_drew (S := (fun w' => w'.cell? ⟨w.heap.size, 2, none⟩ = some (.slice fA fn fc) ∧ w'.cell? ⟨bv, 2, none⟩ = some (.string tag) ∧ w'.cell? ⟨bv, 3, none⟩ = some (.slice dA dn dc))) (by kernel_rfl) ?_ (fun hHeld => ?_)
          · (try dsimp only); exact ⟨(HS.out _ (hE.trans hV)).1, (HSv.out _ hV).2.2.1, (HSv.out _ hV).2.2.2⟩
          refine wpAnyH_take (i := 0) (oi := { dst := some 34, op := _, type := _, pos := _, after := _, guard := _ }) (v := ?_) rfl (by kernel_rfl) (by kernel_rfl) (by kernel_rfl) (fun _ _ _ h => h) (Or.inl ⟨by rfl, ?_⟩) (by assumption) ?_
          rotate_left
          · (intro w hSw; (try dsimp only at hSw); go_simp; (try with_reducible rfl))
          (try simp only [Act.put, List.setIfInBounds_toArray, List.set_cons_zero, List.set_cons_succ])
          refine wpAnyH_take (i := 1) (oi := { dst := some 35, op := _, type := _, pos := _, after := _, guard := _ }) (v := ?_) rfl (by kernel_rfl) (by kernel_rfl) (by kernel_rfl) (fun _ _ _ h => h) (Or.inl ⟨by rfl, ?_⟩) (by assumption) ?_
          rotate_left
          · (intro w hSw; (try dsimp only at hSw); go_simp; (try with_reducible rfl))
          (try simp only [Act.put, List.setIfInBounds_toArray, List.set_cons_zero, List.set_cons_succ])
          refine wpAnyH_take (i := 2) (oi := { dst := some 36, op := _, type := _, pos := _, after := _, guard := _ }) (v := ?_) rfl (by kernel_rfl) (by kernel_rfl) (by kernel_rfl) (fun _ _ _ h => h) (Or.inl ⟨by rfl, ?_⟩) (by assumption) ?_
          rotate_left
          · (intro w hSw; (try dsimp only at hSw); go_simp; (try with_reducible rfl))
          (try simp only [Act.put, List.setIfInBounds_toArray, List.set_cons_zero, List.set_cons_succ])
          refine wpAnyH_take (i := 3) (oi := { dst := some 37, op := _, type := _, pos := _, after := _, guard := _ }) (v := ?_) rfl (by kernel_rfl) (by kernel_rfl) (by kernel_rfl) (fun _ _ _ h => h) (Or.inl ⟨by rfl, ?_⟩) (by assumption) ?_
          rotate_left
          · (intro w hSw; (try dsimp only at hSw); go_simp; (try with_reducible rfl))
          (try simp only [Act.put, List.setIfInBounds_toArray, List.set_cons_zero, List.set_cons_succ])
          refine wpAnyH_take (i := 5) (oi := { dst := some 39, op := _, type := _, pos := _, after := _, guard := _ }) (v := ?_) rfl (by kernel_rfl) (by kernel_rfl) (by kernel_rfl) (fun _ _ _ h => h) (Or.inl ⟨by rfl, ?_⟩) (by assumption) ?_
          rotate_left
          · (intro w hSw; (try dsimp only at hSw); go_simp; (try with_reducible rfl))
          (try simp only [Act.put, List.setIfInBounds_toArray, List.set_cons_zero, List.set_cons_succ])
          refine wpAnyH_take (i := 6) (oi := { dst := some 40, op := _, type := _, pos := _, after := _, guard := _ }) (v := ?_) rfl (by kernel_rfl) (by kernel_rfl) (by kernel_rfl) (fun _ _ _ h => h) (Or.inl ⟨by rfl, ?_⟩) (by assumption) ?_
          rotate_left
          · (intro w hSw; (try dsimp only at hSw); go_simp; (try with_reducible rfl))
          (try simp only [Act.put, List.setIfInBounds_toArray, List.set_cons_zero, List.set_cons_succ])
          refine wpAnyH_take (i := 7) (oi := { dst := some 41, op := _, type := _, pos := _, after := _, guard := _ }) (v := ?_) rfl (by kernel_rfl) (by kernel_rfl) (by kernel_rfl) (fun _ _ _ h => h) (Or.inl ⟨by rfl, ?_⟩) (by assumption) ?_
          rotate_left
          · (intro w hSw; (try dsimp only at hSw); go_simp; (try with_reducible rfl))
          (try simp only [Act.put, List.setIfInBounds_toArray, List.set_cons_zero, List.set_cons_succ])
          refine wpAnyH_take (i := 8) (oi := { dst := some 42, op := _, type := _, pos := _, after := _, guard := _ }) (v := ?_) rfl (by kernel_rfl) (by kernel_rfl) (by kernel_rfl) (fun _ _ _ h => h) (Or.inl ⟨by rfl, ?_⟩) (by assumption) ?_
          rotate_left
          · (intro w hSw; (try dsimp only at hSw); go_simp; (try with_reducible rfl))
          (try simp only [Act.put, List.setIfInBounds_toArray, List.set_cons_zero, List.set_cons_succ])
          refine wpAnyH_ready (rs := [4]) (by kernel_rfl) (by simp) ?_
          refine AllReadyH.cons (o := { dst := some 38, op := _, type := _, pos := _, after := _, guard := _ }) rfl (fun K hK => ?_) AllReadyH.nil
          go_simp
          refine (HSt.out _ tag (HW.out.trans (hE.trans hV))).mono ?_; rintro e w6 ⟨A6, n6, c6, rfl, -, hle6, hb6, hown6⟩; have hown6 := Lib.hid hown6; replace hV := hV.trans hb6; clear hb6
          try go_wp2_with fail
          refine hK.out _ _ ?_ (fun hHeld => ?_)
          · (try dsimp only); exact ⟨(HS.out _ (hE.trans hV)).1, (HSv.out _ hV).2.2.1, (HSv.out _ hV).2.2.2⟩
          clear hK K
          (try simp only [Act.put, List.setIfInBounds_toArray, List.set_cons_zero, List.set_cons_succ])
          refine wpAnyH_take (i := 9) (oi := { dst := some 4, op := _, type := _, pos := _, after := _, guard := _ }) (v := ?_) rfl (by kernel_rfl) (by kernel_rfl) (by kernel_rfl) (fun _ _ _ h => h) (Or.inl ⟨by rfl, ?_⟩) (by assumption) ?_
          rotate_left
          · (intro w hSw; (try dsimp only at hSw); go_simp; (try with_reducible rfl))
          (try simp only [Act.put, List.setIfInBounds_toArray, List.set_cons_zero, List.set_cons_succ])
          refine wpAnyH_take (i := 10) (oi := { dst := some 5, op := _, type := _, pos := _, after := _, guard := _ }) (v := ?_) rfl (by kernel_rfl) (by kernel_rfl) (by kernel_rfl) (fun _ _ _ h => h) (Or.inl ⟨by rfl, ?_⟩) (by assumption) ?_
          rotate_left
          · (intro w hSw; (try dsimp only at hSw); go_simp; (try with_reducible rfl))
          (try simp only [Act.put, List.setIfInBounds_toArray, List.set_cons_zero, List.set_cons_succ])
          refine wpAnyH_take (i := 11) (oi := { dst := some 6, op := _, type := _, pos := _, after := _, guard := _ }) (v := ?_) rfl (by kernel_rfl) (by kernel_rfl) (by kernel_rfl) (fun _ _ _ h => h) (Or.inl ⟨by rfl, ?_⟩) (by assumption) ?_
          rotate_left
          · (intro w hSw; (try dsimp only at hSw); go_simp; (try with_reducible rfl))
          (try simp only [Act.put, List.setIfInBounds_toArray, List.set_cons_zero, List.set_cons_succ])
          refine wpAnyH_done (by kernel_rfl) ?_ _
          go_wp2_with fail
          refine bodyPost_ret (v := .tuple #[.slice A6 n6 c6, .slice dA dn dc, .int .i64 ((k + 1 : Nat) : Int)]) (by simp [results, Tryz.results106, go_sem]) rfl ?_
          have hEf := HW.out.trans (hE.trans hV)
          refine ⟨⟨A6, n6, c6⟩, ⟨dA, dn, dc⟩, rfl, ⟨Rd.of_own (hown6.out), fun h1 a ha hb => ?_, hle6⟩, HVk.out.bd.ext hEf, hEf⟩
          have h9 := (hown6.out.lt a.block (by simp only at ha; subst ha; rfl)).1
          have h8 := HQ.out _ hb
          have h7 := hEw.drew.size
          omega
    · obtain rfl : k = vn := by omega
      obtain rfl : CH = (f, body, 0) := by rw [← hch]; exact Hendb.out _ (by have := Hvl.out; omega)
      go_wp2_with fail
      have hE := hbr.drew
      refine wp_region_held_drew (S := (fun w' => w'.cell? ⟨w.heap.size, 2, none⟩ = some (.slice fA fn fc) ∧ w'.cell? ⟨w.heap.size, 3, none⟩ = some (.slice bA bn bc))) (by kernel_rfl) ?_ (fun hHeld => ?_)
      · (try dsimp only); exact ⟨(HS.out _ hE).1, (HS.out _ hE).2.1⟩
      refine wpAnyH_take (i := 0) (oi := { dst := some 44, op := _, type := _, pos := _, after := _, guard := _ }) (v := ?_) rfl (by kernel_rfl) (by kernel_rfl) (by kernel_rfl) (fun _ _ _ h => h) (Or.inl ⟨by rfl, ?_⟩) (by assumption) ?_
      rotate_left
      · (intro w hSw; (try dsimp only at hSw); go_simp; (try with_reducible rfl))
      (try simp only [Act.put, List.setIfInBounds_toArray, List.set_cons_zero, List.set_cons_succ])
      refine wpAnyH_take (i := 1) (oi := { dst := some 45, op := _, type := _, pos := _, after := _, guard := _ }) (v := ?_) rfl (by kernel_rfl) (by kernel_rfl) (by kernel_rfl) (fun _ _ _ h => h) (Or.inl ⟨by rfl, ?_⟩) (by assumption) ?_
      rotate_left
      · (intro w hSw; (try dsimp only at hSw); go_simp; (try with_reducible rfl))
      (try simp only [Act.put, List.setIfInBounds_toArray, List.set_cons_zero, List.set_cons_succ])
      refine wpAnyH_take (i := 2) (oi := { dst := some 46, op := _, type := _, pos := _, after := _, guard := _ }) (v := ?_) rfl (by kernel_rfl) (by kernel_rfl) (by kernel_rfl) (fun _ _ _ h => h) (Or.inl ⟨by rfl, ?_⟩) (by assumption) ?_
      rotate_left
      · (intro w hSw; (try dsimp only at hSw); go_simp; (try with_reducible rfl))
      (try simp only [Act.put, List.setIfInBounds_toArray, List.set_cons_zero, List.set_cons_succ])
      refine wpAnyH_take (i := 3) (oi := { dst := some 47, op := _, type := _, pos := _, after := _, guard := _ }) (v := ?_) rfl (by kernel_rfl) (by kernel_rfl) (by kernel_rfl) (fun _ _ _ h => h) (Or.inl ⟨by rfl, ?_⟩) (by assumption) ?_
      rotate_left
      · (intro w hSw; (try dsimp only at hSw); go_simp; (try with_reducible rfl))
      (try simp only [Act.put, List.setIfInBounds_toArray, List.set_cons_zero, List.set_cons_succ])
      refine wpAnyH_take (i := 4) (oi := { dst := some 4, op := _, type := _, pos := _, after := _, guard := _ }) (v := ?_) rfl (by kernel_rfl) (by kernel_rfl) (by kernel_rfl) (fun _ _ _ h => h) (Or.inl ⟨by rfl, ?_⟩) (by assumption) ?_
      rotate_left
      · (intro w hSw; (try dsimp only at hSw); go_simp; (try with_reducible rfl))
      (try simp only [Act.put, List.setIfInBounds_toArray, List.set_cons_zero, List.set_cons_succ])
      refine wpAnyH_take (i := 5) (oi := { dst := some 5, op := _, type := _, pos := _, after := _, guard := _ }) (v := ?_) rfl (by kernel_rfl) (by kernel_rfl) (by kernel_rfl) (fun _ _ _ h => h) (Or.inl ⟨by rfl, ?_⟩) (by assumption) ?_
      rotate_left
      · (intro w hSw; (try dsimp only at hSw); go_simp; (try with_reducible rfl))
      (try simp only [Act.put, List.setIfInBounds_toArray, List.set_cons_zero, List.set_cons_succ])
      refine wpAnyH_take (i := 6) (oi := { dst := some 6, op := _, type := _, pos := _, after := _, guard := _ }) (v := ?_) rfl (by kernel_rfl) (by kernel_rfl) (by kernel_rfl) (fun _ _ _ h => h) (Or.inl ⟨by rfl, ?_⟩) (by assumption) ?_
      rotate_left
      · (intro w hSw; (try dsimp only at hSw); go_simp; (try with_reducible rfl))
      (try simp only [Act.put, List.setIfInBounds_toArray, List.set_cons_zero, List.set_cons_succ])
      refine wpAnyH_done (by kernel_rfl) ?_ _
      go_wp2_with fail
      refine bodyPost_ret (v := .tuple #[.slice fA fn fc, .slice bA bn bc, .int .i64 0]) (by simp [results, Tryz.results106, go_sem]) rfl ?_
      have hEf := HW.out.trans hE
      exact ⟨⟨fA, fn, fc⟩, ⟨bA, bn, bc⟩, rfl, HAt.out.fs.ext hEf, HAt.out.bd.ext hEf, hEf⟩
end Go.Proofs.YtmckbcbdnckngaaGreatDoor

namespace Go.Proofs.YtmckbcbdnckngaaGreatDoor
open Go.RowKit Go.Extern.Stop Go.Stop Go.Extern

theorem isTypeOf (v : Value) (w : World) : (Extern.ReflectliteType.typeOf #[.iface 63 v]).run Tryz.prog w = .ok (.iface 254 (.agg #[.pointer (some ⟨9, 63, none⟩)])) w := by kernel_rfl
theorem isComparable (w : World) : (Extern.ReflectliteType.method (fun t => do Rtype.noPackHeld "Comparable" t; (fun a => Value.bool a.comparable) <$> typeInfo t) #[.agg #[.pointer (some ⟨9, 63, none⟩)]]).run Tryz.prog w = .ok (.bool true) w := by kernel_rfl
theorem isMethodComparable (v : Value) (w : World) : (Go.method 398 254 v "Comparable").run Tryz.prog w = .ok (205, v) w := by kernel_rfl
theorem isComp : (Tryz.prog.info? 63).map (·.comparable) = some true := by kernel_rfl
theorem noIsE (v : Value) (xT : TypeId) (w : World) : (Instr.typeAssert (.iface 63 v) xT 256 true).run Tryz.prog w = .ok (.tuple #[.nilIface, .bool false]) w := run_typeAssert_lacksB Tryz.underlying256 (by kernel_rfl) (by kernel_rfl) v xT w
theorem noUnwrapE (v : Value) (xT : TypeId) (w : World) : (Instr.typeAssert (.iface 63 v) xT 259 true).run Tryz.prog w = .ok (.tuple #[.nilIface, .bool false]) w := run_typeAssert_lacksB Tryz.underlying259 (by kernel_rfl) (by kernel_rfl) v xT w
theorem noUnwrapsE (v : Value) (xT : TypeId) (w : World) : (Instr.typeAssert (.iface 63 v) xT 261 true).run Tryz.prog w = .ok (.tuple #[.nilIface, .bool false]) w := run_typeAssert_lacksB Tryz.underlying261 (by kernel_rfl) (by kernel_rfl) v xT w
theorem equalIn_errno (d : Nat) (a b : Int) (w : World) : (Op.equalIn (d + 2) 29 (.iface 63 (.int .i64 a)) (.iface 63 (.int .i64 b))).run Tryz.prog w = .ok (a == b) w := by
  obtain ⟨i, hi, hcmp⟩ := Option.map_eq_some_iff.1 isComp
  simp [Op.equalIn, run_underlying Tryz.underlying29, run_underlying Tryz.underlying63, typeInfo, hi, hcmp]
theorem eql_errno (a b : Int) (w : World) : (binOp .eql 29 (.iface 63 (.int .i64 a)) (.iface 63 (.int .i64 b))).run Tryz.prog w = .ok (.bool (a == b)) w := by
  simp only [binOp]
  simp [Op.equal, Op.maxDepth, equalIn_errno 9998 a b w]
set_option maxHeartbeats 4000000 in
set_option maxRecDepth 100000 in
theorem errs_Is (a b : Int) (w : World) :
    Calls Tryz.prog 139 #[.iface 63 (.int .i64 a), .iface 63 (.int .i64 b)] w fun e w' => e = .returned (.bool (a == b)) ∧ w' = w := by
  have h8 := @run_callFunc_extern Tryz.prog 165 _ Extern.ReflectliteType.typeOf Tryz.func165 (by kernel_rfl) (by kernel_rfl) (by kernel_rfl) (by kernel_rfl)
  have h32 := @run_callFunc_extern Tryz.prog 205 _ (Extern.ReflectliteType.method fun t => do Rtype.noPackHeld "Comparable" t; pure (.bool (← typeInfo t).comparable)) Tryz.func205 (by kernel_rfl) (by kernel_rfl) (by kernel_rfl) (by kernel_rfl)
  have tT := isTypeOf
  have cT := isComparable
  have mR := isMethodComparable
  have nE := noIsE
  have uE := noUnwrapE
  have vE := noUnwrapsE
  have heq := fun w => eql_errno a b w
  cases hq : (a == b) with
  | true =>
    rw [hq] at heq
    clear hq
    go_enter Tryz.func139, Tryz.ntmps139
    go_wp2
    refine wp_loop_rounds 1 ?_
    rw [rounds_succ]
    go_wp2
    go_ret
    exact ⟨rfl, rfl⟩
  | false =>
    rw [hq] at heq
    clear hq
    go_enter Tryz.func139, Tryz.ntmps139
    go_wp2
    refine wp_loop_rounds 1 ?_
    rw [rounds_succ]
    go_wp2
    go_ret
    exact ⟨rfl, rfl⟩
set_option maxHeartbeats 4000000 in
set_option maxRecDepth 100000 in
theorem errs_IsNil (b : Int) (w : World) :
    Calls Tryz.prog 139 #[.nilIface, .iface 63 (.int .i64 b)] w fun e w' => e = .returned (.bool false) ∧ w' = w := by
  have hn := run_eql_iface_nil_left (P := Tryz.prog) w 63 (.int .i64 b) Tryz.underlying29
  go_enter Tryz.func139, Tryz.ntmps139
  go_wp2
  go_ret
  exact ⟨rfl, rfl⟩
/-- errors.Is at an error's number. -/
theorem errs_IsN (n k : Nat) (hk : 0 < k) (w : World) :
    Calls Tryz.prog 139 #[errV n, .iface 63 (.int .i64 (k : Nat))] w fun e w' => e = .returned (.bool (decide (n = k))) ∧ w' = w := by
  rcases errV_eq0 n with ⟨h0, h1⟩ | ⟨h0, h1⟩
  · rw [h1]
    refine (errs_IsNil k w).mono ?_
    rintro e w' ⟨rfl, rfl⟩
    exact ⟨by rw [decide_eq_false (by omega)], rfl⟩
  · rw [h1]
    refine (errs_Is n k w).mono ?_
    rintro e w' ⟨rfl, rfl⟩
    refine ⟨?_, rfl⟩
    congr 2
    rw [Bool.eq_iff_iff, beq_iff_eq, decide_eq_true_eq]
    omega
end Go.Proofs.YtmckbcbdnckngaaGreatDoor
