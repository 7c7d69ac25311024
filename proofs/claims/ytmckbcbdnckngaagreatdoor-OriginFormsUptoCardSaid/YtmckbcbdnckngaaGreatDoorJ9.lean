/- An act in memory; the walk of the law's size. The walk of the law's Code: the error's number of Publish, but for the order. The walk of OriginForms. A slice of pairs of strings, opened, with its bulk. Plain facts on readings. A version opened, with its bulk. Plain facts on readings. OriginForms by the bulk of its version. -/
import Derived.Test.YtmckbcbdnckngaaGreatDoorJ8
import Derived.Lib.SmallJoins
set_option linter.unusedSimpArgs false
set_option linter.unusedVariables false
namespace Go.Proofs.YtmckbcbdnckngaaGreatDoor
open Go.RowKit

theorem szfB_step {fs : List Fd} {k : Nat} (h : k < fs.length) : sumF (fs.take (k + 1)) + 4 * (k + 1) = sumF (fs.take k) + 4 * k + (fs[k].1.size + fs[k].2.size + 4) := by
  rw [sumF_step h]; omega
theorem sumF_take (fs : List Fd) (k : Nat) : sumF (fs.take k) ≤ sumF fs := by
  have h : sumF (fs.take k ++ fs.drop k) = sumF (fs.take k) + sumF (fs.drop k) := by unfold sumF; rw [List.map_append, List.sum_append]
  rw [List.take_append_drop] at h; omega
set_option maxHeartbeats 1000000 in
theorem field_SizeB (A : Option Addr) (n c : Nat) (fs : List Fd) (w : World) (hf : RdF w A n fs) (hn : sumF fs + 4 * n ≤ 1000000000000) :
    Calls Tryz.prog 56 #[.slice A n c] w fun e w' => e = .returned (.int .i64 (sumF fs + 4 * n : Nat)) ∧ Ext w w' := by
  have hl := hf.lenF
  go_enter Tryz.func56, Tryz.ntmps56
  have Hl := Lib.hid hl; clear hl
  go_wp2_with fail
  go_loopw [3, 8] (fun v i wr => ∃ k, k ≤ n ∧ i = .int .i64 (k : Nat) ∧ v = .int .i64 (sumF (fs.take k) + 4 * k : Nat) ∧ Ext w wr) (fun _ i _ => n - (intOf i).toNat)
  case atStart => exact ⟨0, Nat.zero_le _, rfl, rfl, Ext.refl _⟩
  case round =>
    obtain ⟨k, hk, rfl, rfl, hbr⟩ := hrel
    by_cases hlt : k < n
    · have hlt' : k < fs.length := by have := Hl.out; omega
      obtain ⟨b, o, rfl, hc0, hc1⟩ := (hf.ext hbr).atF hlt'
      have hmem := sumF_mem (List.getElem_mem hlt')
      have hst := szfB_step hlt'
      have htk := sumF_take fs (k + 1)
      have Hst := Lib.hid hst
      generalize fs[k].1 = nm at *
      generalize fs[k].2 = vl at *
      have hX2 : sumF (fs.take k) + 4 * k + (nm.size + vl.size + 4) ≤ 1000000000000 := by omega
      clear hst htk
      generalize hX : sumF (fs.take k) + 4 * k = X at *
      clear hX
      go_wp2
      go_roundw
      case rel => exact ⟨k + 1, by omega, by go_num, by rw [Hst.out]; go_num, (hbr.alloc _)⟩
      case measure => simp [intOf]; omega
    · obtain rfl : k = n := by omega
      have he : fs.take k = fs := List.take_of_length_le (by have := Hl.out; omega)
      rw [he]
      go_wp2
      go_ret
      exact ⟨rfl, hbr⟩
/-- An act. -/
structure Ac where
  kd : Nat
  t1 : Int
  t2 : Int
  m : MV
  me : ByteArray
  ta : ByteArray
  rf : List Fd
  rs : Sl
def Ac.cells (a : Ac) : List Value := [.int .u8 a.kd, .int .i64 a.t1, .int .i64 a.t2, .string a.m.addr, .int .i64 a.m.status, a.m.fs.v, a.m.bd.v, a.m.vr.v, .string a.me, .string a.ta, a.rs.v]
structure Ac.At (w : World) (a : Ac) : Prop where
  m : a.m.At (fun _ => False) w
  r : RS (fun _ => False) w 2 a.rs (fldCells a.rf)
theorem Ac.At.ext {w w' : World} {a : Ac} (h : a.At w) (hb : Ext w w') : a.At w' := ⟨h.m.ext hb, h.r.ext hb⟩
def szX (x : Vr) : Nat := x.body.size + x.key.size + x.tag.size + 10 + (x.names.map (·.size)).sum
def szA (a : Ac) : Nat := a.m.addr.size + a.m.body.size + a.ta.size + a.me.size + (sumF a.m.f + 4 * a.m.f.length) + (sumF a.rf + 4 * a.rf.length) + (a.m.vars.map fun x => szX x.1).sum
theorem sum_tk {α : Type} (f : α → Nat) {l : List α} {k : Nat} (h : k < l.length) : ((l.take (k + 1)).map f).sum = ((l.take k).map f).sum + f l[k] := by
  rw [List.take_succ_eq_append_getElem h, List.map_append, List.sum_append]; simp
theorem sum_tl {α : Type} (f : α → Nat) (l : List α) (k : Nat) : ((l.take k).map f).sum ≤ (l.map f).sum := by
  have h : ((l.take k ++ l.drop k).map f).sum = ((l.take k).map f).sum + ((l.drop k).map f).sum := by rw [List.map_append, List.sum_append]
  rw [List.take_append_drop] at h; omega
set_option maxHeartbeats 8000000 in
set_option maxRecDepth 100000 in
theorem law_size (a : Ac) (w : World) (h : a.At w) (hz : szA a ≤ 1000000000000) (hvb : a.m.vars.length ≤ 1048576) (hnb : ∀ x ∈ a.m.vars, x.1.names.length ≤ 1048576) :
    Calls Tryz.prog 24 #[.agg a.cells.toArray] w fun e w' => e = .returned (.int .i64 (szA a : Nat)) ∧ Ext w w' := by
  obtain ⟨kd, t1, t2, ⟨addr, status, f, body, vars, ⟨fA, fn, fc⟩, ⟨bA, bn, bc⟩, ⟨vA, vn, vc⟩⟩, me, ta, rf, ⟨rA, rn, rc⟩⟩ := a
  have hfl := h.m.fs.rd.lenF; have hrl := h.r.rd.lenF; have hvl := h.m.vlen
  have hbl : body.size = bn := by have := h.m.bd.len1; rw [bytC_len] at this; exact this
  simp only at hfl hrl hvl
  have HAt := Lib.hid h
  have HSz := Lib.hid (show szA ⟨kd, t1, t2, ⟨addr, status, f, body, vars, ⟨fA, fn, fc⟩, ⟨bA, bn, bc⟩, ⟨vA, vn, vc⟩⟩, me, ta, rf, ⟨rA, rn, rc⟩⟩ = addr.size + bn + ta.size + me.size + (sumF f + 4 * fn) + (sumF rf + 4 * rn) + (vars.map fun x => szX x.1).sum by show addr.size + body.size + ta.size + me.size + (sumF f + 4 * f.length) + (sumF rf + 4 * rf.length) + _ = _; rw [hbl, hfl, hrl])
  rw [HSz.out] at hz ⊢
  have HF := Lib.hid (fun w' (hx : Ext w w') => field_SizeB fA fn fc f w' (HAt.out.m.fs.rd.ext hx) (by omega))
  have HR := Lib.hid (fun w' (hx : Ext w w') => field_SizeB rA rn rc rf w' (HAt.out.r.rd.ext hx) (by omega))
  have HB := Lib.hid (Blk.new w 68 #[.int .u8 kd, .int .i64 t1, .int .i64 t2, .string addr, .int .i64 status, .slice fA fn fc, .slice bA bn bc, .slice vA vn vc, .string me, .string ta, .slice rA rn rc])
  have HW := Lib.hid ((Ext.refl w).alloc (.cells #[.int .u8 kd, .int .i64 t1, .int .i64 t2, .string addr, .int .i64 status, .slice fA fn fc, .slice bA bn bc, .slice vA vn vc, .string me, .string ta, .slice rA rn rc] 68))
  have Hvl := Lib.hid hvl; have Hvb := Lib.hid (show vn ≤ 1048576 by simp only at hvb; omega); have Hnb := Lib.hid hnb
  have hV := sum_tl (fun x : Vr × VrM => szX x.1) vars
  have HV := Lib.hid hV
  clear hfl hrl hvl hbl hV h hvb hnb
  obtain ⟨zf, hzf⟩ : ∃ z, sumF f + 4 * fn = z := ⟨_, rfl⟩
  obtain ⟨zr, hzr⟩ : ∃ z, sumF rf + 4 * rn = z := ⟨_, rfl⟩
  rw [hzf] at HF hz HSz ⊢
  rw [hzr] at HR hz HSz ⊢
  clear hzf hzr
  obtain ⟨s1, hs1⟩ : ∃ s, addr.size + bn = s := ⟨_, rfl⟩
  obtain ⟨s2, hs2⟩ : ∃ s, s1 + ta.size = s := ⟨_, rfl⟩
  obtain ⟨s3, hs3⟩ : ∃ s, s2 + me.size = s := ⟨_, rfl⟩
  obtain ⟨s4, hs4⟩ : ∃ s, s3 + zf = s := ⟨_, rfl⟩
  obtain ⟨X0, hX0⟩ : ∃ s, s4 + zr = s := ⟨_, rfl⟩
  have hq1 : IntKind.i64.wrap ((addr.size : Int) + (bn : Int)) = (s1 : Int) := by rw [IntWalk.i64_in _ (by omega)]; omega
  have hq2 : IntKind.i64.wrap ((s1 : Int) + (ta.size : Int)) = (s2 : Int) := by rw [IntWalk.i64_in _ (by omega)]; omega
  have hq3 : IntKind.i64.wrap ((s2 : Int) + (me.size : Int)) = (s3 : Int) := by rw [IntWalk.i64_in _ (by omega)]; omega
  have hq4 : IntKind.i64.wrap ((s3 : Int) + (zf : Int)) = (s4 : Int) := by rw [IntWalk.i64_in _ (by omega)]; omega
  have hq5 : IntKind.i64.wrap ((s4 : Int) + (zr : Int)) = (X0 : Int) := by rw [IntWalk.i64_in _ (by omega)]; omega
  have HT := Lib.hid (show addr.size + bn + ta.size + me.size + zf + zr = X0 by omega)
  rw [HT.out] at hz HSz ⊢
  have Hz := Lib.hid hz
  clear hs1 hs2 hs3 hs4 hX0 hz
  simp only [Ac.cells, Sl.v]
  go_enter Tryz.func24, Tryz.ntmps24
  go_upto_region 1 with fail
  have hsz1 : (w.alloc (.cells #[.int .u8 kd, .int .i64 t1, .int .i64 t2, .string addr, .int .i64 status, .slice fA fn fc, .slice bA bn bc, .slice vA vn vc, .string me, .string ta, .slice rA rn rc] 68)).heap.size = w.heap.size + 1 := by simp
  generalize w.alloc (.cells #[.int .u8 kd, .int .i64 t1, .int .i64 t2, .string addr, .int .i64 status, .slice fA fn fc, .slice bA bn bc, .slice vA vn vc, .string me, .string ta, .slice rA rn rc] 68) = W at *
  have hE := (Ext.refl W).drew
  have HS := Lib.hid (fun w' (hx : Ext W w') => (⟨(HB.out.ext hx).cell 3, (HB.out.ext hx).cell 5, (HB.out.ext hx).cell 6, (HB.out.ext hx).cell 8, (HB.out.ext hx).cell 9, (HB.out.ext hx).cell 10⟩ : _ ∧ _ ∧ _ ∧ _ ∧ _ ∧ _))
  simp only [List.getElem?_toArray, List.getElem?_cons_succ, List.getElem?_cons_zero] at HS
  refine wp_region_held_drew (S := (fun w' => w'.cell? ⟨w.heap.size, 3, none⟩ = some (.string addr) ∧ w'.cell? ⟨w.heap.size, 5, none⟩ = some (.slice fA fn fc) ∧ w'.cell? ⟨w.heap.size, 6, none⟩ = some (.slice bA bn bc) ∧ w'.cell? ⟨w.heap.size, 8, none⟩ = some (.string me) ∧ w'.cell? ⟨w.heap.size, 9, none⟩ = some (.string ta) ∧ w'.cell? ⟨w.heap.size, 10, none⟩ = some (.slice rA rn rc))) (by kernel_rfl) ?_ (fun hHeld => ?_)
  · (try dsimp only); exact HS.out _ hE
  refine wpAnyH_take (i := 0) (oi := { dst := some 8, op := _, type := _, pos := _, after := _, guard := _ }) (v := ?_) rfl (by kernel_rfl) (by kernel_rfl) (by kernel_rfl) (fun _ _ _ h => h) (Or.inl ⟨by rfl, ?_⟩) (by assumption) ?_
  rotate_left
  · (intro w hSw; (try dsimp only at hSw); go_simp; (try with_reducible rfl))
  (try simp only [Act.put, List.setIfInBounds_toArray, List.set_cons_zero, List.set_cons_succ])
  refine wpAnyH_take (i := 1) (oi := { dst := some 9, op := _, type := _, pos := _, after := _, guard := _ }) (v := ?_) rfl (by kernel_rfl) (by kernel_rfl) (by kernel_rfl) (fun _ _ _ h => h) (Or.inl ⟨by rfl, ?_⟩) (by assumption) ?_
  rotate_left
  · (intro w hSw; (try dsimp only at hSw); go_simp; (try with_reducible rfl))
  (try simp only [Act.put, List.setIfInBounds_toArray, List.set_cons_zero, List.set_cons_succ])
  refine wpAnyH_take (i := 2) (oi := { dst := some 10, op := _, type := _, pos := _, after := _, guard := _ }) (v := ?_) rfl (by kernel_rfl) (by kernel_rfl) (by kernel_rfl) (fun _ _ _ h => h) (Or.inl ⟨by rfl, ?_⟩) (by assumption) ?_
  rotate_left
  · (intro w hSw; (try dsimp only at hSw); go_simp; (try with_reducible rfl))
  (try simp only [Act.put, List.setIfInBounds_toArray, List.set_cons_zero, List.set_cons_succ])
  refine wpAnyH_take (i := 3) (oi := { dst := some 11, op := _, type := _, pos := _, after := _, guard := _ }) (v := ?_) rfl (by kernel_rfl) (by kernel_rfl) (by kernel_rfl) (fun _ _ _ h => h) (Or.inl ⟨by rfl, ?_⟩) (by assumption) ?_
  rotate_left
  · (intro w hSw; (try dsimp only at hSw); go_simp; (try with_reducible rfl))
  (try simp only [Act.put, List.setIfInBounds_toArray, List.set_cons_zero, List.set_cons_succ])
  refine wpAnyH_take (i := 4) (oi := { dst := some 12, op := _, type := _, pos := _, after := _, guard := _ }) (v := ?_) rfl (by kernel_rfl) (by kernel_rfl) (by kernel_rfl) (fun _ _ _ h => h) (Or.inl ⟨by rfl, ?_⟩) (by assumption) ?_
  rotate_left
  · (intro w hSw; (try dsimp only at hSw); go_simp; (try with_reducible rfl))
  (try simp only [Act.put, List.setIfInBounds_toArray, List.set_cons_zero, List.set_cons_succ])
  refine wpAnyH_take (i := 5) (oi := { dst := some 13, op := _, type := _, pos := _, after := _, guard := _ }) (v := ?_) rfl (by kernel_rfl) (by kernel_rfl) (by kernel_rfl) (fun _ _ _ h => h) (Or.inl ⟨by rfl, ?_⟩) (by assumption) ?_
  rotate_left
  · (intro w hSw; (try dsimp only at hSw); go_simp; (try with_reducible rfl))
  (try simp only [Act.put, List.setIfInBounds_toArray, List.set_cons_zero, List.set_cons_succ])
  refine wpAnyH_take (i := 6) (oi := { dst := some 14, op := _, type := _, pos := _, after := _, guard := _ }) (v := ?_) rfl (by kernel_rfl) (by kernel_rfl) (by kernel_rfl) (fun _ _ _ h => h) (Or.inl ⟨by rfl, ?_⟩) (by assumption) ?_
  rotate_left
  · (intro w hSw; (try dsimp only at hSw); go_simp; (try with_reducible rfl))
  (try simp only [Act.put, List.setIfInBounds_toArray, List.set_cons_zero, List.set_cons_succ])
  refine wpAnyH_take (i := 7) (oi := { dst := some 15, op := _, type := _, pos := _, after := _, guard := _ }) (v := ?_) rfl (by kernel_rfl) (by kernel_rfl) (by kernel_rfl) (fun _ _ _ h => h) (Or.inl ⟨by rfl, ?_⟩) (by assumption) ?_
  rotate_left
  · (intro w hSw; (try dsimp only at hSw); go_simp; (try with_reducible rfl))
  (try simp only [Act.put, List.setIfInBounds_toArray, List.set_cons_zero, List.set_cons_succ])
  refine wpAnyH_take (i := 8) (oi := { dst := some 16, op := _, type := _, pos := _, after := _, guard := _ }) (v := ?_) rfl (by kernel_rfl) (by kernel_rfl) (by kernel_rfl) (fun _ _ _ h => h) (Or.inl ⟨by rfl, ?_⟩) (by assumption) ?_
  rotate_left
  · (intro w hSw; (try dsimp only at hSw); go_simp; (try with_reducible rfl))
  (try simp only [Act.put, List.setIfInBounds_toArray, List.set_cons_zero, List.set_cons_succ])
  refine wpAnyH_take (i := 9) (oi := { dst := some 17, op := _, type := _, pos := _, after := _, guard := _ }) (v := ?_) rfl (by kernel_rfl) (by kernel_rfl) (by kernel_rfl) (fun _ _ _ h => h) (Or.inl ⟨by rfl, ?_⟩) (by assumption) ?_
  rotate_left
  · (intro w hSw; (try dsimp only at hSw); go_simp; (try with_reducible rfl))
  (try simp only [Act.put, List.setIfInBounds_toArray, List.set_cons_zero, List.set_cons_succ])
  refine wpAnyH_take (i := 10) (oi := { dst := some 18, op := _, type := _, pos := _, after := _, guard := _ }) (v := ?_) rfl (by kernel_rfl) (by kernel_rfl) (by kernel_rfl) (fun _ _ _ h => h) (Or.inl ⟨by rfl, ?_⟩) (by assumption) ?_
  rotate_left
  · (intro w hSw; (try dsimp only at hSw); go_simp; (try with_reducible rfl))
  (try simp only [Act.put, List.setIfInBounds_toArray, List.set_cons_zero, List.set_cons_succ])
  refine wpAnyH_take (i := 11) (oi := { dst := some 19, op := _, type := _, pos := _, after := _, guard := _ }) (v := ?_) rfl (by kernel_rfl) (by kernel_rfl) (by kernel_rfl) (fun _ _ _ h => h) (Or.inl ⟨by rfl, ?_⟩) (by assumption) ?_
  rotate_left
  · (intro w hSw; (try dsimp only at hSw); go_simp; (try with_reducible rfl))
  (try simp only [Act.put, List.setIfInBounds_toArray, List.set_cons_zero, List.set_cons_succ])
  refine wpAnyH_take (i := 12) (oi := { dst := some 20, op := _, type := _, pos := _, after := _, guard := _ }) (v := ?_) rfl (by kernel_rfl) (by kernel_rfl) (by kernel_rfl) (fun _ _ _ h => h) (Or.inl ⟨by rfl, ?_⟩) (by assumption) ?_
  rotate_left
  · (intro w hSw; (try dsimp only at hSw); go_simp; (try with_reducible rfl))
  (try simp only [Act.put, List.setIfInBounds_toArray, List.set_cons_zero, List.set_cons_succ])
  refine wpAnyH_take (i := 13) (oi := { dst := some 21, op := _, type := _, pos := _, after := _, guard := _ }) (v := ?_) rfl (by kernel_rfl) (by kernel_rfl) (by kernel_rfl) (fun _ _ _ h => h) (Or.inl ⟨by rfl, ?_⟩) (by assumption) ?_
  rotate_left
  · (intro w hSw; (try dsimp only at hSw); go_simp; (try with_reducible rfl))
  (try simp only [Act.put, List.setIfInBounds_toArray, List.set_cons_zero, List.set_cons_succ])
  refine wpAnyH_take (i := 14) (oi := { dst := some 22, op := _, type := _, pos := _, after := _, guard := _ }) (v := ?_) rfl (by kernel_rfl) (by kernel_rfl) (by kernel_rfl) (fun _ _ _ h => h) (Or.inl ⟨by rfl, ?_⟩) (by assumption) ?_
  rotate_left
  · (intro w hSw; (try dsimp only at hSw); go_simp; (try with_reducible rfl))
  (try simp only [Act.put, List.setIfInBounds_toArray, List.set_cons_zero, List.set_cons_succ])
  refine wpAnyH_take (i := 15) (oi := { dst := some 23, op := _, type := _, pos := _, after := _, guard := _ }) (v := ?_) rfl (by kernel_rfl) (by kernel_rfl) (by kernel_rfl) (fun _ _ _ h => h) (Or.inl ⟨by rfl, ?_⟩) (by assumption) ?_
  rotate_left
  · (intro w hSw; (try dsimp only at hSw); go_simp; (try with_reducible rfl))
  (try simp only [Act.put, List.setIfInBounds_toArray, List.set_cons_zero, List.set_cons_succ])
  refine wpAnyH_take (i := 16) (oi := { dst := some 24, op := _, type := _, pos := _, after := _, guard := _ }) (v := ?_) rfl (by kernel_rfl) (by kernel_rfl) (by kernel_rfl) (fun _ _ _ h => h) (Or.inl ⟨by rfl, ?_⟩) (by assumption) ?_
  rotate_left
  · (intro w hSw; (try dsimp only at hSw); go_simp; (try with_reducible rfl))
  (try simp only [Act.put, List.setIfInBounds_toArray, List.set_cons_zero, List.set_cons_succ])
  refine wpAnyH_take (i := 17) (oi := { dst := some 25, op := _, type := _, pos := _, after := _, guard := _ }) (v := ?_) rfl (by kernel_rfl) (by kernel_rfl) (by kernel_rfl) (fun _ _ _ h => h) (Or.inl ⟨by rfl, ?_⟩) (by assumption) ?_
  rotate_left
  · (intro w hSw; (try dsimp only at hSw); go_simp; (try with_reducible rfl))
  (try simp only [Act.put, List.setIfInBounds_toArray, List.set_cons_zero, List.set_cons_succ])
  refine wpAnyH_take (i := 18) (oi := { dst := some 26, op := _, type := _, pos := _, after := _, guard := _ }) (v := ?_) rfl (by kernel_rfl) (by kernel_rfl) (by kernel_rfl) (fun _ _ _ h => h) (Or.inl ⟨by rfl, ?_⟩) (by assumption) ?_
  rotate_left
  · (intro w hSw; (try dsimp only at hSw); go_simp; (try with_reducible rfl))
  (try simp only [Act.put, List.setIfInBounds_toArray, List.set_cons_zero, List.set_cons_succ])
  refine wpAnyH_take (i := 19) (oi := { dst := some 27, op := _, type := _, pos := _, after := _, guard := _ }) (v := ?_) rfl (by kernel_rfl) (by kernel_rfl) (by kernel_rfl) (fun _ _ _ h => h) (Or.inl ⟨by rfl, ?_⟩) (by assumption) ?_
  rotate_left
  · (intro w hSw; (try dsimp only at hSw); go_simp; (try with_reducible rfl))
  (try simp only [Act.put, List.setIfInBounds_toArray, List.set_cons_zero, List.set_cons_succ])
  refine wpAnyH_take (i := 20) (oi := { dst := some 28, op := _, type := _, pos := _, after := _, guard := _ }) (v := ?_) rfl (by kernel_rfl) (by kernel_rfl) (by kernel_rfl) (fun _ _ _ h => h) (Or.inl ⟨by rfl, ?_⟩) (by assumption) ?_
  rotate_left
  · (intro w hSw; (try dsimp only at hSw); go_simp; (try with_reducible rfl))
  (try simp only [Act.put, List.setIfInBounds_toArray, List.set_cons_zero, List.set_cons_succ])
  refine wpAnyH_take (i := 21) (oi := { dst := some 29, op := _, type := _, pos := _, after := _, guard := _ }) (v := ?_) rfl (by kernel_rfl) (by kernel_rfl) (by kernel_rfl) (fun _ _ _ h => h) (Or.inl ⟨by rfl, ?_⟩) (by assumption) ?_
  rotate_left
  · (intro w hSw; (try dsimp only at hSw); go_simp; (try with_reducible rfl))
  (try simp only [Act.put, List.setIfInBounds_toArray, List.set_cons_zero, List.set_cons_succ])
  refine wpAnyH_take (i := 24) (oi := { dst := some 32, op := _, type := _, pos := _, after := _, guard := _ }) (v := ?_) rfl (by kernel_rfl) (by kernel_rfl) (by kernel_rfl) (fun _ _ _ h => h) (Or.inl ⟨by rfl, ?_⟩) (by assumption) ?_
  rotate_left
  · (intro w hSw; (try dsimp only at hSw); go_simp; (try with_reducible rfl))
  (try simp only [Act.put, List.setIfInBounds_toArray, List.set_cons_zero, List.set_cons_succ])
  refine wpAnyH_take (i := 25) (oi := { dst := some 33, op := _, type := _, pos := _, after := _, guard := _ }) (v := ?_) rfl (by kernel_rfl) (by kernel_rfl) (by kernel_rfl) (fun _ _ _ h => h) (Or.inl ⟨by rfl, ?_⟩) (by assumption) ?_
  rotate_left
  · (intro w hSw; (try dsimp only at hSw); go_simp; (try with_reducible rfl))
  (try simp only [Act.put, List.setIfInBounds_toArray, List.set_cons_zero, List.set_cons_succ])
  refine wpAnyH_take (i := 26) (oi := { dst := some 34, op := _, type := _, pos := _, after := _, guard := _ }) (v := ?_) rfl (by kernel_rfl) (by kernel_rfl) (by kernel_rfl) (fun _ _ _ h => h) (Or.inl ⟨by rfl, ?_⟩) (by assumption) ?_
  rotate_left
  · (intro w hSw; (try dsimp only at hSw); go_simp; (try with_reducible rfl))
  (try simp only [Act.put, List.setIfInBounds_toArray, List.set_cons_zero, List.set_cons_succ])
  refine wpAnyH_ready (rs := [22]) (by kernel_rfl) (by simp) ?_
  refine AllReadyH.cons (o := { dst := some 30, op := _, type := _, pos := _, after := _, guard := _ }) rfl (fun K hK => ?_) AllReadyH.nil
  go_simp
  refine (HF.out _ (HW.out.trans hE)).mono ?_; rintro e w22 ⟨rfl, hb22⟩; replace hE := hE.trans hb22
  try go_wp2_with fail
  refine hK.out _ _ ?_ (fun hHeld => ?_)
  · (try dsimp only); exact HS.out _ hE
  clear hK K
  (try simp only [Act.put, List.setIfInBounds_toArray, List.set_cons_zero, List.set_cons_succ])
  refine wpAnyH_take (i := 23) (oi := { dst := some 31, op := _, type := _, pos := _, after := _, guard := _ }) (v := ?_) rfl (by kernel_rfl) (by kernel_rfl) (by kernel_rfl) (fun _ _ _ h => h) (Or.inl ⟨by rfl, ?_⟩) (by assumption) ?_
  rotate_left
  · (intro w hSw; (try dsimp only at hSw); go_simp; (try with_reducible rfl))
  (try simp only [Act.put, List.setIfInBounds_toArray, List.set_cons_zero, List.set_cons_succ])
  refine wpAnyH_ready (rs := [27]) (by kernel_rfl) (by simp) ?_
  refine AllReadyH.cons (o := { dst := some 35, op := _, type := _, pos := _, after := _, guard := _ }) rfl (fun K hK => ?_) AllReadyH.nil
  go_simp
  refine (HR.out _ (HW.out.trans hE)).mono ?_; rintro e w27 ⟨rfl, hb27⟩; replace hE := hE.trans hb27
  try go_wp2_with fail
  refine hK.out _ _ ?_ (fun hHeld => ?_)
  · (try dsimp only); exact HS.out _ hE
  clear hK K
  (try simp only [Act.put, List.setIfInBounds_toArray, List.set_cons_zero, List.set_cons_succ])
  refine wpAnyH_take (i := 28) (oi := { dst := some 36, op := _, type := _, pos := _, after := _, guard := _ }) (v := ?_) rfl (by kernel_rfl) (by kernel_rfl) (by kernel_rfl) (fun _ _ _ h => h) (Or.inl ⟨by rfl, ?_⟩) (by assumption) ?_
  rotate_left
  · (intro w hSw; (try dsimp only at hSw); go_simp; (try with_reducible rfl))
  (try simp only [Act.put, List.setIfInBounds_toArray, List.set_cons_zero, List.set_cons_succ])
  refine wpAnyH_take (i := 29) (oi := { dst := some 3, op := _, type := _, pos := _, after := _, guard := _ }) (v := ?_) rfl (by kernel_rfl) (by kernel_rfl) (by kernel_rfl) (fun _ _ _ h => h) (Or.inl ⟨by rfl, ?_⟩) (by assumption) ?_
  rotate_left
  · (intro w hSw; (try dsimp only at hSw); go_simp; (try with_reducible rfl))
  (try simp only [Act.put, List.setIfInBounds_toArray, List.set_cons_zero, List.set_cons_succ])
  refine wpAnyH_done (by kernel_rfl) ?_ _
  have HE := Lib.hid (HW.out.trans hE)
  have c7 := (HB.out.ext hE).cell 7
  simp only [List.getElem?_toArray, List.getElem?_cons_succ, List.getElem?_cons_zero] at c7
  clear hE HS hq1 hq2 hq3 hq4 hq5
  go_wp2_with fail
  go_loopg [3, 41] vn (fun g nv i wr => ∃ k : Nat, k ≤ vn ∧ g = vn - k ∧ i = .int .i64 (k : Nat) ∧ nv = .int .i64 (X0 + ((vars.take k).map fun x => szX x.1).sum : Nat) ∧ Ext w wr)
  case atStart => exact ⟨0, Nat.zero_le _, rfl, rfl, rfl, HE.out⟩
  case round =>
    obtain ⟨k, hk, rfl, rfl, rfl, hbr⟩ := hrel
    by_cases hlt : k < vn
    · have hlt' : k < vars.length := by have := Hvl.out; omega
      obtain ⟨b, o, hbo, c0, c1, c2, c3⟩ := (HAt.out.m.ext hbr).var hlt'
      simp only at hbo
      subst hbo
      have HVk := Lib.hid ((HAt.out.m.ext hbr).each _ (List.getElem_mem hlt'))
      have Htk := Lib.hid (sum_tk (fun x : Vr × VrM => szX x.1) hlt')
      have htl := HV.out (k + 1)
      rw [Htk.out] at htl
      have hz2 := Hz.out
      have hvb := Hvb.out
      have hnb := Hnb.out _ (List.getElem_mem hlt')
      generalize hY : ((vars.take k).map fun x => szX x.1).sum = Y at *
      generalize vars[k] = x at *
      obtain ⟨⟨names, key, tag, xb⟩, ⟨⟨nA, nn, nc⟩, ⟨dA, dn, dc⟩⟩⟩ := x
      simp only [Sl.v] at *
      have hdn : xb.size = dn := by have := HVk.out.bd.len1; rw [bytC_len] at this; exact this
      have hnn : names.length = nn := HVk.out.nm.rd.lenS
      have hsx : szX ⟨names, key, tag, xb⟩ = dn + key.size + tag.size + 10 + (names.map (·.size)).sum := by rw [← hdn]; rfl
      rw [hsx] at htl Htk
      have hnb2 : nn ≤ 1048576 := by omega
      have hnl := sum_tl (fun s : ByteArray => s.size) names
      obtain ⟨U, hU⟩ : ∃ U, X0 + Y + (dn + key.size + tag.size + 10) = U := ⟨_, rfl⟩
      have HU := Lib.hid hU
      have hY0 : X0 + Y ≤ 1000000000000 := by omega
      obtain ⟨Y0, hY1⟩ : ∃ y, X0 + Y = y := ⟨_, rfl⟩
      rw [hY1]
      have hUb : U + (names.map (·.size)).sum ≤ 1000000000000 := by omega
      have Hnl := Lib.hid hnl; have HUb := Lib.hid hUb; have HY1 := Lib.hid hY1
      have hdz : dn + key.size + tag.size + 10 ≤ 1000000000000 := by omega
      have hYz : Y0 ≤ 1000000000000 := by omega
      have HW4 := Lib.hid (hbr.alloc (.cells #[.slice nA nn nc, .string key, .string tag, .slice dA dn dc] 58))
      have HNm := Lib.hid (HVk.out.nm.rd.ext ((Ext.refl wr).alloc (.cells #[.slice nA nn nc, .string key, .string tag, .slice dA dn dc] 58)))
      clear htl hz2 hsx hdn hU hUb hnl HVk hbr hY1 hY
      go_wp2_with fail
      go_loopg [3, 62] nn (fun g nv i wi => ∃ j : Nat, j ≤ nn ∧ g = nn - j ∧ i = .int .i64 (j : Nat) ∧ nv = .int .i64 (U + ((names.take j).map (·.size)).sum : Nat) ∧ Ext w wi ∧ Rd wi 1 nA nn (strCells names))
      case atStart => exact ⟨0, Nat.zero_le _, rfl, rfl, by have h1 := HU.out; have h2 := HY1.out; congr 1; simp only [List.take_zero, List.map_nil, List.sum_nil]; omega, HW4.out, HNm.out⟩
      case round =>
        obtain ⟨j, hj, rfl, rfl, rfl, hbi, hri⟩ := hrel
        by_cases hjt : j < nn
        · have hjt' : j < names.length := by omega
          obtain ⟨gb, go, rfl, hcj⟩ := Rd.atS hri hjt'
          have hst := sum_tk (fun s : ByteArray => s.size) hjt'
          have hle := Hnl.out (j + 1)
          rw [hst] at hle
          have Hst := Lib.hid hst
          have hub := HUb.out
          generalize hZ : ((names.take j).map fun s : ByteArray => s.size).sum = Z at *
          generalize names[j] = nm at *
          have hb1 : U + Z + nm.size ≤ 1000000000000 := by omega
          clear hst hle hZ hub
          obtain ⟨V, hV⟩ : ∃ V, U + Z = V := ⟨_, rfl⟩
          rw [hV] at hb1 ⊢
          go_wp2_with fail
          go_roundg (nn - (j + 1))
          case measure => omega
          case rel => exact ⟨j + 1, by omega, rfl, by go_num, by rw [Hst.out, ← hV]; congr 1; omega, hbi, hri⟩
        · have hjn : j = nn := by omega
          subst hjn
          rw [List.take_of_length_le (by omega)]
          go_wp2_with fail
          go_roundg (vn - (k + 1))
          case measure => omega
          case rel => exact ⟨k + 1, by omega, rfl, by go_num, by rw [Htk.out]; have h1 := HU.out; congr 1; omega, hbi⟩
    · have hkn : k = vn := by omega
      subst hkn
      rw [List.take_of_length_le (by have := Hvl.out; omega)]
      go_wp2_with fail
      go_ret
      exact ⟨rfl, hbr⟩
end Go.Proofs.YtmckbcbdnckngaaGreatDoor

namespace Go.Proofs.YtmckbcbdnckngaaGreatDoor
open Go.RowKit

def cdS (n : Nat) (v : Ver) : Nat := if bigVr v || decide (4096 ≤ n) then 5 else if !okVr v then 2 else 0
theorem anyV_step {α : Type} {l : List α} {p : α → Bool} {k : Nat} (h : k < l.length) (ha : (l.take k).any p = false) : (l.take (k + 1)).any p = p l[k] := by
  rw [take_step l k h, List.any_append, ha]; simp
theorem anyV_yes {α : Type} {l : List α} {p : α → Bool} {k : Nat} (h : k < l.length) (ha : p l[k] = true) : l.any p = true :=
  List.any_eq_true.2 ⟨_, List.getElem_mem h, ha⟩
theorem rd_ok {s : ByteArray} {a : Adr} (h : rdAd s = some a) : ((a.has = true ∨ a.query = []) ∧ adP a.host (adTarget a) = some a) ∧ a.host.length ≤ s.size ∧ a.path.length + a.query.length ≤ s.size := by
  unfold rdAd at h
  split at h
  · split at h
    · rename_i b hb
      split at h
      · rename_i ht
        injection h with h
        subst h
        have h1 := ad_again hb
        refine ⟨h1, ?_⟩
        have hl := congrArg List.length ht
        rw [show (bL s).length = s.size by unfold bL; rw [Array.length_toList]; rfl] at hl
        unfold adText at hl
        split at hl
        · simp only [List.length_append, List.length_cons] at hl; omega
        · rename_i hh
          rcases h1.1 with h2 | h2
          · exact absurd h2 hh
          · rw [h2]; simp only [List.length_append] at hl; simp only [List.length_nil]; omega
      · cases h
    · cases h
  · cases h
set_option maxHeartbeats 16000000 in
set_option maxRecDepth 100000 in
theorem law_Code (Q : Nat → Prop) (m : MV) (iA : Option Addr) (n ic : Nat) (sb sl : Value) (w : World) (h : m.At Q w) (hn : n ≤ 1000000000) (ha : m.addr.size ≤ 1048000) (hf : m.f.length ≤ 1048576) (hT : sumF m.f ≤ 1048576) (hbd : m.body.size ≤ 1099511627776) (hv : m.vars.length ≤ 1048576)
    (hx : ∀ x ∈ m.vars, x.1.names.length ≤ 1048576 ∧ (∀ n ∈ x.1.names, n.size ≤ 1048576) ∧ x.1.body.size ≤ 1099511627776) (hg : Gl w) :
    Calls Tryz.prog 25 #[.agg #[.slice iA n ic, sb, sl], .agg m.cells.toArray] w fun e w' => e = .returned (.int .i64 (cdS n m.ver : Nat)) ∧ Ext w w' := by
  have hfl := h.fs.rd.lenF
  have hvl := h.vlen
  have hbl : m.body.size = m.bd.n := by have := h.bd.len1; rw [bytC_len] at this; exact this
  have hbz := bszF m.f
  have HRd := Lib.hid (fun w' (hh : Ext w w') => adr_Read m.addr w' (by omega) (hg.ext hh))
  have HVd := Lib.hid (fun (a : Adr) (e : rdAd m.addr = some a) w' (hh : Ext w w') => adr_Valid a w' (rd_ok e).1 (by have := (rd_ok e).2; omega) (by have := (rd_ok e).2; omega) (hg.ext hh))
  have HCk := Lib.hid (fun w' (hh : Ext w w') => field_Check m.fs.A m.fs.n m.fs.c m.f w' (h.fs.rd.ext hh) (by omega) (fun f hf => ⟨by have := (hbz f hf).1; omega, by have := (hbz f hf).2; omega⟩))
  have HGt := Lib.hid (fun w' nm (hh : Ext w w') (hn : nm.size ≤ 100) => field_AllO m.fs.A m.fs.n m.fs.c m.f nm w' (h.fs.rd.ext hh) (by omega) (by omega) (fun f hf => by have := (hbz f hf).1; omega))
  have HAt := Lib.hid h
  have HB := Lib.hid (bigVr_eq m); have HO := Lib.hid (okVr_eq m)
  have Hx := Lib.hid hx
  have Hvl := Lib.hid hvl
  have HR := Lib.hid (show cdS n m.ver = if bigVr m.ver || decide (4096 ≤ n) then 5 else if !okVr m.ver then 2 else 0 from rfl)
  generalize cdS n m.ver = R at *
  generalize bigVr m.ver = big at *
  generalize okVr m.ver = okv at *
  rw [hbl] at hbd HB
  rw [hvl] at hv HB
  clear hfl hbz h hx ha hf hT hbl
  obtain ⟨addr, status, f, body, vars, ⟨fA, fn, fc⟩, ⟨bA, bn, bc⟩, ⟨vA, vn, vc⟩⟩ := m
  simp only [MV.cells, Sl.v] at *
  clear hvl
  have HW := Lib.hid (((Ext.refl w).alloc (.cells #[.slice iA n ic, sb, sl] 74)).alloc (.cells #[.string addr, .int .i64 status, .slice fA fn fc, .slice bA bn bc, .slice vA vn vc] 36))
  have HXs := Lib.hid ((Blk.new w 74 #[.slice iA n ic, sb, sl]).alloc (.cells #[.string addr, .int .i64 status, .slice fA fn fc, .slice bA bn bc, .slice vA vn vc] 36))
  have HXv := Blk.new (w.alloc (.cells #[.slice iA n ic, sb, sl] 74)) 36 #[.string addr, .int .i64 status, .slice fA fn fc, .slice bA bn bc, .slice vA vn vc]
  rw [show (w.alloc (.cells #[.slice iA n ic, sb, sl] 74)).heap.size = w.heap.size + 1 by simp] at HXv
  have HXv := Lib.hid HXv
  have HS := Lib.hid (fun w' (hh : Ext ((w.alloc (.cells #[.slice iA n ic, sb, sl] 74)).alloc (.cells #[.string addr, .int .i64 status, .slice fA fn fc, .slice bA bn bc, .slice vA vn vc] 36)) w') => (⟨(HXs.out.ext hh).cell 0, (HXv.out.ext hh).cell 0, (HXv.out.ext hh).cell 1, (HXv.out.ext hh).cell 2, (HXv.out.ext hh).cell 3, (HXv.out.ext hh).cell 4⟩ : w'.cell? ⟨w.heap.size, 0, none⟩ = some (.slice iA n ic) ∧ w'.cell? ⟨w.heap.size + 1, 0, none⟩ = some (.string addr) ∧ w'.cell? ⟨w.heap.size + 1, 1, none⟩ = some (.int .i64 status) ∧ w'.cell? ⟨w.heap.size + 1, 2, none⟩ = some (.slice fA fn fc) ∧ w'.cell? ⟨w.heap.size + 1, 3, none⟩ = some (.slice bA bn bc) ∧ w'.cell? ⟨w.heap.size + 1, 4, none⟩ = some (.slice vA vn vc)))
  obtain ⟨x0, x1, x2, x3, x4, x5⟩ := HS.out _ (Ext.refl _)
  by_cases h1 : 65536 < bn
  · obtain rfl : R = 5 := by rw [HR.out, HB.out]; simp [h1]
    have h1' : (65536 : Int) < bn := by omega
    go_enter Tryz.func25, Tryz.ntmps25
    go_wp2_with fail
    go_ret
    exact ⟨rfl, HW.out⟩
  have h1' : ¬ (65536 : Int) < bn := by omega
  by_cases h2 : 8 < vn
  · obtain rfl : R = 5 := by rw [HR.out, HB.out]; simp [h2]
    have h2' : (8 : Int) < vn := by omega
    go_enter Tryz.func25, Tryz.ntmps25
    go_wp2_with fail
    go_ret
    exact ⟨rfl, HW.out⟩
  have h2' : ¬ (8 : Int) < vn := by omega
  by_cases h3 : 4096 ≤ n
  · obtain rfl : R = 5 := by rw [HR.out]; simp [h3]
    have h3' : (4096 : Int) ≤ n := by omega
    go_enter Tryz.func25, Tryz.ntmps25
    go_wp2_with fail
    go_ret
    exact ⟨rfl, HW.out⟩
  have h3' : ¬ (4096 : Int) ≤ n := by omega
  have HB1 := Lib.hid (show big = vars.any fun x => bigX x.1 by rw [HB.out]; simp [h1, h2])
  have HR1 := Lib.hid (show R = if big then 5 else if !okv then 2 else 0 by rw [HR.out]; simp [h3])
  clear HB HR
  go_enter Tryz.func25, Tryz.ntmps25
  go_wp2_with fail
  clear x0 x1 x2 x3 x4 x5
  generalize ((w.alloc (.cells #[.slice iA n ic, sb, sl] 74)).alloc (.cells #[.string addr, .int .i64 status, .slice fA fn fc, .slice bA bn bc, .slice vA vn vc] 36)) = Wb at *
  go_loopg [34] vn (fun g i wr => ∃ k : Nat, k ≤ vn ∧ g = vn - k ∧ i = .int .i64 (k : Nat) ∧ (vars.take k).any (fun x => bigX x.1) = false ∧ Wb = wr)
  case atStart => exact ⟨0, Nat.zero_le _, rfl, rfl, rfl, rfl⟩
  case round =>
    obtain ⟨k, hk, rfl, rfl, hany, rfl⟩ := hrel
    obtain ⟨x0, x1, x2, x3, x4, x5⟩ := HS.out _ (Ext.refl _)
    by_cases hlt : k < vn
    · have hlt' : k < vars.length := by have := Hvl.out; omega
      obtain ⟨b, o, hbo, c0, c1, c2, c3⟩ := (HAt.out.ext HW.out).var hlt'
      simp only at hbo
      subst hbo
      have Hst := Lib.hid (anyV_step hlt' hany)
      have Hye := Lib.hid (@anyV_yes _ vars (fun x => bigX x.1) k hlt')
      have hbl : vars[k].1.body.size = vars[k].2.bd.n := by have := (HAt.out.each _ (List.getElem_mem hlt')).bd.len1; rw [bytC_len] at this; exact this
      have hxb := (Hx.out _ (List.getElem_mem hlt')).2.2
      clear hany
      generalize vars[k] = x at *
      obtain ⟨⟨names, key, tag, xb⟩, ⟨⟨nA, nn, nc⟩, ⟨dA, dn, dc⟩⟩⟩ := x
      simp only [Sl.v] at *
      have Hbx := Lib.hid (show bigX ⟨names, key, tag, xb⟩ = decide (65536 < dn) by rw [← hbl]; rfl)
      rw [Hbx.out] at Hst Hye
      by_cases hd : 65536 < dn
      · have hd' : (65536 : Int) < dn := by omega
        obtain rfl : R = 5 := by rw [HR1.out, HB1.out, Hye.out (by simp [hd])]; rfl
        go_wp2_with fail
        go_ret
        exact ⟨rfl, HW.out⟩
      · have hd' : ¬ (65536 : Int) < dn := by omega
        go_wp2_with fail
        go_roundg (vn - (k + 1))
        case measure => omega
        case rel => exact ⟨k + 1, by omega, rfl, by go_num, by rw [Hst.out]; simp [hd], rfl⟩
    · have hkn : vn = k := by omega
      subst hkn
      have HR2 := Lib.hid (show R = if !okv then 2 else 0 by
        rw [List.take_of_length_le (by have := Hvl.out; omega)] at hany
        rw [HR1.out, HB1.out, hany]; rfl)
      clear HB1 HR1 hany hlt
      have HRE := Lib.hid (show rdE addr = if (rdAd addr).isSome then 0 else 2 from rfl)
      go_wp2_with fail
      refine (HRd.out _ HW.out).mono ?_; rintro e w1 ⟨rfl, hb1⟩
      clear x0 x1 x2 x3 x4 x5
      cases hra : rdAd addr with
      | none =>
        have HRe := Lib.hid (show rdE addr = 2 by rw [HRE.out, hra]; rfl)
        rw [HRe.out, show errV 2 = .iface 63 (.int .i64 2) from rfl, show adrA none = #[.string ⟨#[]⟩, .string ⟨#[]⟩, .string ⟨#[]⟩, .bool false] from rfl]
        obtain rfl : R = 2 := by rw [HR2.out, HO.out, hra]; rfl
        have hE := hb1.alloc (.cells #[.string ⟨#[]⟩, .string ⟨#[]⟩, .string ⟨#[]⟩, .bool false] 123)
        obtain ⟨x0, x1, x2, x3, x4, x5⟩ := HS.out _ hE
        go_wp2_with fail
        go_ret
        exact ⟨rfl, HW.out.trans hE⟩
      | some a =>
        have HRe := Lib.hid (show rdE addr = 0 by rw [HRE.out, hra]; rfl)
        have HV := Lib.hid (HVd.out a hra)
        have HO1 := Lib.hid (show okv = (decide (200 ≤ status) && decide (status ≤ 599) && chkS f == 0 && sixN.all (fun n => (allS f n).isEmpty) && vars.all fun x => okNames x.1) by rw [HO.out, hra]; rfl)
        rw [HRe.out, show errV 0 = .nilIface from rfl, show adrA (some a) = #[.string ⟨a.host.toArray⟩, .string ⟨a.path.toArray⟩, .string ⟨a.query.toArray⟩, .bool a.has] from rfl]
        clear HRe HRE HRd HVd HO
        have hE := hb1.alloc (.cells #[.string ⟨a.host.toArray⟩, .string ⟨a.path.toArray⟩, .string ⟨a.query.toArray⟩, .bool a.has] 123)
        obtain ⟨x0, x1, x2, x3, x4, x5⟩ := HS.out _ hE
        generalize (⟨a.host.toArray⟩ : ByteArray) = ah at *
        generalize (⟨a.path.toArray⟩ : ByteArray) = ap at *
        generalize (⟨a.query.toArray⟩ : ByteArray) = aq at *
        generalize a.has = ab at *
        go_wp2_with fail
        refine (HV.out _ (HW.out.trans hE)).mono ?_; rintro e w2 ⟨rfl, hb2⟩
        replace hE := hE.trans hb2
        clear x0 x1 x2 x3 x4 x5
        obtain ⟨x0, x1, x2, x3, x4, x5⟩ := HS.out _ hE
        by_cases hs1 : status < 200
        · obtain rfl : R = 2 := by rw [HR2.out, HO1.out, decide_eq_false (show ¬ 200 ≤ status by omega)]; rfl
          go_wp2_with fail
          go_ret
          exact ⟨rfl, HW.out.trans hE⟩
        by_cases hs2 : 599 < status
        · obtain rfl : R = 2 := by rw [HR2.out, HO1.out, decide_eq_false (show ¬ status ≤ 599 by omega)]; simp
          go_wp2_with fail
          go_ret
          exact ⟨rfl, HW.out.trans hE⟩
        have HO2 := Lib.hid (show okv = (chkS f == 0 && sixN.all (fun n => (allS f n).isEmpty) && vars.all fun x => okNames x.1) by rw [HO1.out, decide_eq_true (show 200 ≤ status by omega), decide_eq_true (show status ≤ 599 by omega)]; rfl)
        clear HO1 HV
        generalize chkS f = ck at *
        go_wp2_with fail
        refine (HCk.out _ (HW.out.trans hE)).mono ?_; rintro e w3 ⟨rfl, hb3⟩
        replace hE := hE.trans hb3
        clear x0 x1 x2 x3 x4 x5
        obtain ⟨x0, x1, x2, x3, x4, x5⟩ := HS.out _ hE
        rcases errV_eq0 ck with ⟨h4, h5⟩ | ⟨h4, h5⟩
        rotate_left
        · obtain rfl : R = 2 := by rw [HR2.out, HO2.out]; simp [h4]
          rw [h5]
          go_wp2_with fail
          go_ret
          exact ⟨rfl, HW.out.trans hE⟩
        rw [h5]
        have HR3 := Lib.hid (show R = if !(sixN.all (fun n => (allS f n).isEmpty) && vars.all fun x => okNames x.1) then 2 else 0 by rw [HR2.out, HO2.out, h4]; rfl)
        clear HCk HO2 HR2 h4 h5 hb1 hb2 hb3
        have hNm : RdS (w3.alloc (.cells #[.string ⟨#[100, 97, 116, 101]⟩, .string ⟨#[97, 103, 101]⟩, .string ⟨#[99, 111, 110, 116, 101, 110, 116, 45, 108, 101, 110, 103, 116, 104]⟩, .string ⟨#[99, 111, 110, 116, 101, 110, 116, 45, 114, 97, 110, 103, 101]⟩, .string ⟨#[116, 114, 97, 110, 115, 102, 101, 114, 45, 101, 110, 99, 111, 100, 105, 110, 103]⟩, .string ⟨#[99, 111, 110, 110, 101, 99, 116, 105, 111, 110]⟩] 9)) (some ⟨w3.heap.size, 0, none⟩) 6 sixN := Rd.lit w3 #[.string ⟨#[100, 97, 116, 101]⟩, .string ⟨#[97, 103, 101]⟩, .string ⟨#[99, 111, 110, 116, 101, 110, 116, 45, 108, 101, 110, 103, 116, 104]⟩, .string ⟨#[99, 111, 110, 116, 101, 110, 116, 45, 114, 97, 110, 103, 101]⟩, .string ⟨#[116, 114, 97, 110, 115, 102, 101, 114, 45, 101, 110, 99, 111, 100, 105, 110, 103]⟩, .string ⟨#[99, 111, 110, 110, 101, 99, 116, 105, 111, 110]⟩] 9 rfl 1 6 rfl
        have hE4 := Lib.hid (hE.alloc (.cells #[.string ⟨#[100, 97, 116, 101]⟩, .string ⟨#[97, 103, 101]⟩, .string ⟨#[99, 111, 110, 116, 101, 110, 116, 45, 108, 101, 110, 103, 116, 104]⟩, .string ⟨#[99, 111, 110, 116, 101, 110, 116, 45, 114, 97, 110, 103, 101]⟩, .string ⟨#[116, 114, 97, 110, 115, 102, 101, 114, 45, 101, 110, 99, 111, 100, 105, 110, 103]⟩, .string ⟨#[99, 111, 110, 110, 101, 99, 116, 105, 111, 110]⟩] 9))
        clear hE x0 x1 x2 x3 x4 x5
        go_wp2_with fail
        generalize w3.alloc (.cells #[.string ⟨#[100, 97, 116, 101]⟩, .string ⟨#[97, 103, 101]⟩, .string ⟨#[99, 111, 110, 116, 101, 110, 116, 45, 108, 101, 110, 103, 116, 104]⟩, .string ⟨#[99, 111, 110, 116, 101, 110, 116, 45, 114, 97, 110, 103, 101]⟩, .string ⟨#[116, 114, 97, 110, 115, 102, 101, 114, 45, 101, 110, 99, 111, 100, 105, 110, 103]⟩, .string ⟨#[99, 111, 110, 110, 101, 99, 116, 105, 111, 110]⟩] 9) = w4 at *
        generalize w3.heap.size = bN at *
        go_loopg [77] 6 (fun g i wr => ∃ k : Nat, k ≤ 6 ∧ g = 6 - k ∧ i = .int .i64 (k : Nat) ∧ (sixN.take k).all (fun n => (allS f n).isEmpty) = true ∧ Ext w4 wr)
        case atStart => exact ⟨0, by omega, rfl, rfl, rfl, Ext.refl _⟩
        case round =>
          obtain ⟨k, hk, rfl, rfl, hall, hbr⟩ := hrel
          obtain ⟨x0, x1, x2, x3, x4, x5⟩ := HS.out _ (hE4.out.trans hbr)
          by_cases hlt : k < 6
          · have hlt' : k < sixN.length := hlt
            obtain ⟨b, o, hbo, hc0⟩ := (hNm.ext hbr).atS hlt'
            injection hbo with hbo
            injection hbo with e1 e2
            subst e1; subst e2
            rw [Nat.zero_add] at hc0
            have Hst := Lib.hid (all_step hlt' hall)
            have Hno := Lib.hid (@all_no _ sixN (fun n => (allS f n).isEmpty) k hlt')
            have Hsz := Lib.hid (show (sixN[k]).size ≤ 100 from (show ∀ x ∈ sixN, x.size ≤ 100 by decide +kernel) _ (List.getElem_mem hlt'))
            clear hall
            generalize sixN[k] = nm at *
            have HG2 := Lib.hid (HGt.out wr nm (HW.out.trans (hE4.out.trans hbr)) Hsz.out)
            go_wp2_with fail
            refine HG2.out.mono ?_; rintro e w5 ⟨A5, n5, c5, rfl, hr5, hc5, hb5, -⟩
            have hl5 := hr5.lenS
            cases hem : (allS f nm).isEmpty
            · obtain rfl : R = 2 := by rw [HR3.out, Hno.out hem]; rfl
              have h5 : (0 : Int) < n5 := by
                cases hq : allS f nm with
                | nil => rw [hq] at hem; cases hem
                | cons x l => rw [hq] at hl5; simp at hl5; omega
              go_wp2_with fail
              go_ret
              exact ⟨rfl, HW.out.trans (hE4.out.trans (hbr.trans hb5))⟩
            · have h5 : ¬ (0 : Int) < n5 := by
                rw [List.isEmpty_iff] at hem
                rw [hem] at hl5; simp at hl5; omega
              go_wp2_with fail
              go_roundg (6 - (k + 1))
              case measure => omega
              case rel => exact ⟨k + 1, by omega, rfl, by go_num, Hst.out.trans hem, hbr.trans hb5⟩
          · have hk6 : k = 6 := by omega
            subst hk6
            have HR4 := Lib.hid (show R = if !(vars.all fun x => okNames x.1) then 2 else 0 by rw [HR3.out, show sixN.all (fun n => (allS f n).isEmpty) = true from hall]; rfl)
            replace hE4 := Lib.hid (hE4.out.trans hbr)
            clear hall hNm HGt hbr hlt HR3
            go_wp2_with fail
            clear x0 x1 x2 x3 x4 x5
            go_loopg [91] vn (fun g i wi => ∃ k : Nat, k ≤ vn ∧ g = vn - k ∧ i = .int .i64 (k : Nat) ∧ (vars.take k).all (fun x => okNames x.1) = true ∧ Ext Wb wi)
            case atStart => exact ⟨0, by omega, rfl, rfl, rfl, hE4.out⟩
            case round =>
              obtain ⟨k, hk, rfl, rfl, hall, hbi⟩ := hrel
              obtain ⟨x0, x1, x2, x3, x4, x5⟩ := HS.out _ hbi
              by_cases hlt : k < vn
              · have hlt' : k < vars.length := by have := Hvl.out; omega
                obtain ⟨b, o, hbo, c0, c1, c2, c3⟩ := (HAt.out.ext (HW.out.trans hbi)).var hlt'
                simp only at hbo
                subst hbo
                have Hst := Lib.hid (all_step hlt' hall)
                have Hno := Lib.hid (@all_no _ vars (fun x => okNames x.1) k hlt')
                have hxk := Hx.out _ (List.getElem_mem hlt')
                have HVr := Lib.hid ((HAt.out.each _ (List.getElem_mem hlt')).nm.rd)
                clear hall
                generalize vars[k] = x at *
                obtain ⟨⟨names, key, tag, xb⟩, ⟨⟨nA, nn, nc⟩, ⟨dA, dn, dc⟩⟩⟩ := x
                simp only [Sl.v] at *
                obtain ⟨hx1, hx2, -⟩ := hxk
                have hnn : names.length = nn := HVr.out.lenS
                have hnn2 : nn ≤ 1048576 := by omega
                have Hnn := Lib.hid hnn
                have Hx2 := Lib.hid hx2
                clear hnn hx1 hx2
                go_wp2_with fail
                clear c0 c1 c2 c3 x0 x1 x2 x3 x4 x5
                go_loopg [101] nn (fun g i wj => ∃ j : Nat, j ≤ nn ∧ g = nn - j ∧ i = .int .i64 (j : Nat) ∧ (names.take j).all nameOk = true ∧ Ext Wb wj)
                case atStart => exact ⟨0, by omega, rfl, rfl, rfl, hbi⟩
                case round =>
                  obtain ⟨j, hj, rfl, rfl, halj, hbj⟩ := hrel
                  by_cases hjt : j < nn
                  · have hjt' : j < names.length := by have := Hnn.out; omega
                    obtain ⟨b2, o2, rfl, hd0⟩ := (HVr.out.ext (HW.out.trans hbj)).atS hjt'
                    have Hsj := Lib.hid (all_step hjt' halj)
                    have Hnj := Lib.hid (@all_no _ names nameOk j hjt')
                    have hzj := Hx2.out _ (List.getElem_mem hjt')
                    generalize names[j] = nm at *
                    have HnO := Lib.hid (show nameOk nm = (nameE nm == 0 && nameS nm == nm) from rfl)
                    generalize nameOk nm = nk at *
                    go_wp2_with fail
                    refine (field_Name nm _ (by omega)).mono ?_; rintro e w6 ⟨rfl, hb6⟩
                    rcases errV_eq0 (nameE nm) with ⟨h0, h1⟩ | ⟨h0, h1⟩
                    rotate_left
                    · rw [h1]
                      obtain rfl : nk = false := by rw [HnO.out]; simp [h0]
                      obtain rfl : R = 2 := by rw [HR4.out, Hno.out (Hnj.out (by trivial))]; rfl
                      generalize nameS nm = ns at *
                      generalize nameE nm = ne at *
                      go_wp2_with fail
                      go_ret
                      exact ⟨rfl, HW.out.trans (hbj.trans hb6)⟩
                    · rw [h1]
                      rw [h0] at HnO
                      generalize nameS nm = ns at *
                      by_cases hns : ns = nm
                      · have hq : (ns.toList == nm.toList) = true := eqS_iff.2 hns
                        obtain rfl : nk = true := by rw [HnO.out, hns, beqB]; simp
                        clear hns
                        go_wp2_with fail
                        go_roundg (nn - (j + 1))
                        case measure => omega
                        case rel => exact ⟨j + 1, by omega, rfl, by go_num, Hsj.out, hbj.trans hb6⟩
                      · have hq : (ns.toList == nm.toList) = false := Bool.eq_false_iff.2 (fun e => hns (eqS_iff.1 e))
                        obtain rfl : nk = false := by rw [HnO.out, beqB]; simp [hns]
                        obtain rfl : R = 2 := by rw [HR4.out, Hno.out (Hnj.out (by trivial))]; rfl
                        clear hns
                        go_wp2_with fail
                        go_ret
                        exact ⟨rfl, HW.out.trans (hbj.trans hb6)⟩
                  · have hjn : nn = j := by omega
                    subst hjn
                    have HA := Lib.hid (show okNames ⟨names, key, tag, xb⟩ = true by rw [List.take_of_length_le (by have := Hnn.out; omega)] at halj; exact halj)
                    clear halj hjt
                    go_wp2_with fail
                    go_roundg (vn - (k + 1))
                    case measure => omega
                    case rel => exact ⟨k + 1, by omega, rfl, by go_num, Hst.out.trans HA.out, hbj⟩
              · have hkn : vn = k := by omega
                subst hkn
                obtain rfl : R = 0 := by
                  rw [HR4.out]
                  rw [List.take_of_length_le (by have := Hvl.out; omega)] at hall; rw [hall]; rfl
                go_wp2_with fail
                go_ret
                exact ⟨rfl, HW.out.trans hbi⟩
end Go.Proofs.YtmckbcbdnckngaaGreatDoor

namespace Go.Proofs.YtmckbcbdnckngaaGreatDoor
open Go.RowKit

theorem base_ClipO (n lo hi : Int) (w : World) : Calls Tryz.prog 60 #[.int .i64 n, .int .i64 lo, .int .i64 hi] w fun e w' => e = .returned (.int .i64 (max lo (min n hi))) ∧ w' = w := by
  go_enter Tryz.func60, Tryz.ntmps60
  go_wp2_with fail
  all_goals
    go_ret
    exact ⟨rfl, rfl⟩
theorem base_TimeO (n : Int) (w : World) : Calls Tryz.prog 27 #[.int .i64 n] w fun e w' => e = .returned (.int .i64 (cl55 n)) ∧ w' = w := by
  have HC := Lib.hid (base_ClipO n 0 1099511627776)
  go_enter Tryz.func27, Tryz.ntmps27
  go_wp2_with fail
  refine (HC.out _).mono ?_; rintro e w1 ⟨rfl, rfl⟩
  go_wp2_with fail
  go_ret
  exact ⟨rfl, rfl⟩
/-- The sizes of what a small act holds. -/
theorem szA_ver {a : Ac} {n : Nat} (h : szA a ≤ n) : a.m.addr.size ≤ n ∧ sumF a.m.f ≤ n ∧ a.m.f.length ≤ n ∧ a.m.body.size ≤ n ∧ a.me.size ≤ n ∧ a.ta.size ≤ n ∧ sumF a.rf + 4 * a.rf.length ≤ n ∧ (∀ x ∈ a.m.vars, x.1.body.size ≤ n ∧ x.1.tag.size ≤ n ∧ x.1.key.size ≤ n ∧ ∀ s ∈ x.1.names, s.size ≤ n) := by
  unfold szA at h
  refine ⟨by omega, by omega, by omega, by omega, by omega, by omega, by omega, fun x hx => ?_⟩
  have h1 : szX x.1 ≤ (a.m.vars.map fun x => szX x.1).sum := by
    have : ∀ l : List (Vr × VrM), x ∈ l → szX x.1 ≤ (l.map fun x => szX x.1).sum := by
      intro l
      induction l with
      | nil => intro h; cases h
      | cons y l ih =>
        intro h
        rw [List.map_cons, List.sum_cons]
        rcases List.mem_cons.1 h with rfl | h
        · omega
        · have := ih h; omega
    exact this _ hx
  have h0 : szX x.1 = x.1.body.size + x.1.key.size + x.1.tag.size + 10 + (x.1.names.map (·.size)).sum := rfl
  generalize (a.m.vars.map fun x => szX x.1).sum = T at *
  refine ⟨by omega, by omega, by omega, fun s hs => ?_⟩
  have h2 : s.size ≤ (x.1.names.map (·.size)).sum := by
    have : ∀ l : List ByteArray, s ∈ l → s.size ≤ (l.map (·.size)).sum := by
      intro l
      induction l with
      | nil => intro h; cases h
      | cons y l ih =>
        intro h
        rw [List.map_cons, List.sum_cons]
        rcases List.mem_cons.1 h with rfl | h
        · omega
        · have := ih h; omega
    exact this _ hs
  omega
def acV (m : MV) : Ac := ⟨0, 0, 0, m, ⟨#[]⟩, ⟨#[]⟩, [], sl0⟩
theorem f_pub0 {v : Ver} {t : Int} (h : cdS 0 v ≠ 0) : pubS org0 t v = (0, cdS 0 v, org0) := by
  have e : cdS 0 v = if bigVr v then 5 else if !okVr v then 2 else 0 := by unfold cdS; simp
  rw [e] at h ⊢
  cases hb : bigVr v
  · rw [hb] at h
    cases hk : okVr v
    · exact pub_form hb (by decide) hk
    · rw [hk] at h; exact absurd rfl h
  · exact pub_big hb
theorem f_pub1 {v : Ver} {t : Int} (h : cdS 0 v = 0) : bigVr v = false ∧ okVr v = true ∧ pubS org0 t v = (1, 0, ⟨[(cl55 t, v)], [], []⟩) := by
  have e : cdS 0 v = if bigVr v then 5 else if !okVr v then 2 else 0 := by unfold cdS; simp
  rw [e] at h
  cases hb : bigVr v
  · rw [hb] at h
    cases hk : okVr v
    · rw [hk] at h; cases h
    · exact ⟨rfl, rfl, pub_ok (o := org0) (t := t) hb (by decide) hk (fun p hp => by cases hp)⟩
  · rw [hb] at h; cases h
set_option maxHeartbeats 16000000 in
set_option maxRecDepth 100000 in
theorem forms_walk (m : MV) (t1 t2 : Int) (w : World) (h : m.At (fun _ => False) w) (hz : szA (acV m) ≤ 1000000000) (hvb : m.vars.length ≤ 1048576) (hnb : ∀ x ∈ m.vars, x.1.names.length ≤ 1048576) (hg : Gl w) (hh : GlH w) (hp : GlP w) :
    Calls Tryz.prog 8 #[.agg m.cells.toArray, .agg #[.int .i64 t1, .int .i64 t2]] w fun e w' => e = .returned (.bool true) ∧ Ext w w' := by
  have HEg := Lib.hid (fun w' (hx : Ext w w') => (⟨hg.ext hx, hh.ext hx, hp.ext hx⟩ : Gl w' ∧ GlH w' ∧ GlP w'))
  clear hg hh hp
  have HSi := Lib.hid (fun w' (hx : Ext w w') => law_size (acV m) w' ⟨h.ext hx, RS.nil _ _ _⟩ (by omega) hvb hnb)
  have HAt := Lib.hid h
  have Hsm := Lib.hid (fun (hs : szA (acV m) ≤ 5000) => szA_ver hs)
  have HCd := Lib.hid (fun (hs : szA (acV m) ≤ 5000) w' (hx : Ext w w') => law_Code (fun _ => False) m none 0 0 (.slice none 0 0) (.slice none 0 0) w' (h.ext hx) (by omega) (by have := (Hsm.out hs).1; simp only [acV] at this; omega) (by have := (Hsm.out hs).2.2.1; simp only [acV] at this; omega) (by have := (Hsm.out hs).2.1; simp only [acV] at this; omega) (by have := (Hsm.out hs).2.2.2.1; simp only [acV] at this; omega) hvb (fun x hx2 => ⟨hnb x hx2, fun n hn => by have := ((Hsm.out hs).2.2.2.2.2.2.2 x hx2).2.2.2 n hn; omega, by have := ((Hsm.out hs).2.2.2.2.2.2.2 x hx2).1; omega⟩) (HEg.out _ hx).1)
  have HSz := Lib.hid (fun (hs : szA (acV m) ≤ 5000) => show SzV m.ver from ⟨by have := (Hsm.out hs).1; simp only [acV] at this; show m.addr.size ≤ _; omega, by have := (Hsm.out hs).2.2.1; simp only [acV] at this; show m.f.length ≤ _; omega, by have := (Hsm.out hs).2.1; simp only [acV] at this; show sumF m.f ≤ _; omega, by have := (Hsm.out hs).2.2.2.1; simp only [acV] at this; show m.body.size ≤ _; omega, by show (m.vars.map (·.1)).length ≤ _; rw [List.length_map]; omega, fun x hx => by
    obtain ⟨y, hy, rfl⟩ := List.mem_map.1 hx
    have h9 := (Hsm.out hs).2.2.2.2.2.2.2 y hy
    exact ⟨hnb y hy, fun n hn => by have := h9.2.2.2 n hn; omega, by omega, by omega⟩⟩)
  have HP0 := Lib.hid (fun t => @f_pub0 m.ver t); have HP1 := Lib.hid (fun t => @f_pub1 m.ver t)
  clear h hvb hnb
  generalize hS0 : szA (acV m) = S0 at *
  have HV := Lib.hid ((Blk.new w 36 #[.string m.addr, .int .i64 m.status, m.fs.v, m.bd.v, m.vr.v]).alloc (.cells #[.int .i64 t1, .int .i64 t2] 65))
  have hTm := Blk.new (w.alloc (.cells #[.string m.addr, .int .i64 m.status, m.fs.v, m.bd.v, m.vr.v] 36)) 65 #[.int .i64 t1, .int .i64 t2]
  rw [show (w.alloc (.cells #[.string m.addr, .int .i64 m.status, m.fs.v, m.bd.v, m.vr.v] 36)).heap.size = w.heap.size + 1 by simp] at hTm
  have HTm := Lib.hid hTm
  have HW := Lib.hid (((Ext.refl w).alloc (.cells #[.string m.addr, .int .i64 m.status, m.fs.v, m.bd.v, m.vr.v] 36)).alloc (.cells #[.int .i64 t1, .int .i64 t2] 65))
  have HMv := Lib.hid (show m.cells.toArray = #[.string m.addr, .int .i64 m.status, m.fs.v, m.bd.v, m.vr.v] from rfl)
  have HSi2 := Lib.hid (HSi.out _ HW.out)
  have HAc := Lib.hid (show (acV m).cells.toArray = #[.int .u8 0, .int .i64 0, .int .i64 0, .string m.addr, .int .i64 m.status, m.fs.v, m.bd.v, m.vr.v, .string ⟨#[]⟩, .string ⟨#[]⟩, .slice none 0 0] from rfl)
  rw [HAc.out] at HSi2
  rw [HMv.out] at HCd ⊢
  clear hTm HSi HAc
  have hpv : ∀ (v : Ver), m.ver = v → True := fun _ _ => trivial
  obtain ⟨v, hv⟩ : ∃ v, m.ver = v := ⟨_, rfl⟩
  have Hv := Lib.hid hv
  rw [hv] at HCd HSz HP0 HP1
  clear hpv hv
  generalize m.fs.v = vfs at *
  generalize m.bd.v = vbd at *
  generalize m.vr.v = vvr at *
  generalize m.addr = ad at *
  generalize m.status = st at *
  go_enter Tryz.func8, Tryz.ntmps8
  go_wp2_with (first | (refine wpList_loadB rfl 36 (.tmp 2) rfl w.heap.size rfl 36 _ HV.out _ Tryz.underlying36 infoVe ?_))
  refine HSi2.out.mono ?_; rintro e w1 ⟨rfl, hb1⟩
  have HE1 := Lib.hid (HW.out.trans hb1)
  have HV1 := Lib.hid (HV.out.ext hb1); have HT1 := Lib.hid (HTm.out.ext hb1)
  clear hb1 HSi2 HV HTm HW
  by_cases hbig : 5000 < S0
  · have f1 : (5000 : Int) < S0 := by omega
    go_wp2_with fail
    refine (law_awake _ (HEg.out _ HE1.out).1 (HEg.out _ HE1.out).2.1 (HEg.out _ HE1.out).2.2).mono ?_; rintro e w2 ⟨rfl, hb2⟩
    go_wp2_with fail
    go_ret
    exact ⟨rfl, HE1.out.trans hb2⟩
  have f1 : ¬ (5000 : Int) < S0 := by omega
  have hsm : S0 ≤ 5000 := by omega
  have HCd2 := Lib.hid (HCd.out hsm); have HSz2 := Lib.hid (HSz.out hsm)
  clear HCd HSz Hsm hz
  go_wp2_with fail
  refine (law_awake _ (HEg.out _ HE1.out).1 (HEg.out _ HE1.out).2.1 (HEg.out _ HE1.out).2.2).mono ?_; rintro e w2 ⟨rfl, hb2⟩
  go_wp2_with fail
  refine (or_New _).mono ?_; rintro e w3 ⟨rfl, hO3, hb3⟩
  have HE3 := Lib.hid (HE1.out.trans (hb2.trans hb3))
  have HV3 := Lib.hid (HV1.out.ext (hb2.trans hb3)); have HT3 := Lib.hid (HT1.out.ext (hb2.trans hb3))
  have hp3 : w2.heap.size < w3.heap.size := hO3.low _ rfl
  have HWl := Lib.hid (show w.heap.size + 2 ≤ w2.heap.size from by have := (HT1.out.ext hb2).lt; omega)
  have hat3 := HAt.out.ext HE3.out
  have HPu := Lib.hid (fun (x : Int) (k : Nat) (o2 : Org) (e : pubS org0 t1 v = (x, k, o2)) => pub_v hO3 hat3 Hv.out HSz2.out e (HEg.out _ HE3.out).1)
  rw [HMv.out] at HPu
  clear hO3 hb2 hb3 hat3 HV1 HT1
  generalize w2.heap.size = p at *
  have t0 : w3.cell? ⟨w.heap.size + 1, 0, none⟩ = some (.int .i64 t1) := HT3.out.cell 0
  go_wp2_with (first | (refine wpList_loadB rfl 36 (.tmp 2) rfl w.heap.size rfl 36 _ HV3.out _ Tryz.underlying36 infoVe ?_))
  have HCt := Lib.hid (show cdS 0 v ≤ 5 by unfold cdS; split <;> (try split) <;> omega)
  by_cases hc : cdS 0 v = 0
  rotate_left
  · have HPu2 := Lib.hid (HPu.out _ _ _ (HP0.out t1 hc))
    generalize cdS 0 v = c at *
    have hc0 : ((c : Int) != 0) = true := by simp; omega
    refine HPu2.out.mono ?_; rintro e w4 ⟨rfl, R4, -, hk4, -, -⟩
    have HE4 := Lib.hid (HE3.out.keeps hk4 (fun i hi => by have := HWl.out; have h2 : i = p := hi; omega))
    have HV4 := Lib.hid (HV3.out.keep hk4 (by have := HWl.out; omega))
    clear hk4 HPu2 HPu t0
    go_wp2_with (first | (refine wpList_loadB rfl 36 (.tmp 2) rfl w.heap.size rfl 36 _ HV4.out _ Tryz.underlying36 infoVe ?_))
    refine (HCd2.out _ HE4.out).mono ?_; rintro e w5 ⟨rfl, hb5⟩
    have HNu := Lib.hid (base_Num c (by have := HCt.out; omega) w5)
    go_wp2_with fail
    refine HNu.out.mono ?_; rintro e w6 ⟨rfl, hb6⟩
    go_wp2_with fail
    go_ret
    exact ⟨rfl, HE4.out.trans (hb5.trans hb6)⟩
  obtain ⟨hB, hK, hP⟩ := HP1.out t1 hc
  have HPu2 := Lib.hid (HPu.out _ _ _ hP)
  have HBK := Lib.hid (⟨hB, hK⟩ : _ ∧ _)
  rw [hc] at HCd2
  clear hB hK hP HP0 HP1 HPu HCt hc
  refine HPu2.out.mono ?_; rintro e w4 ⟨rfl, R4, ⟨M4, hO4⟩, hk4, hR4a, hR4b⟩
  have HE4 := Lib.hid (HE3.out.keeps hk4 (fun i hi => by have := HWl.out; have h2 : i = p := hi; omega))
  have HV4 := Lib.hid (HV3.out.keep hk4 (by have := HWl.out; omega)); have HT4 := Lib.hid (HT3.out.keep hk4 (by have := HWl.out; omega))
  have HO4 := Lib.hid hO4
  have HR4 := Lib.hid (fun i (hi : R4 i) => (hR4b i hi).elim (fun h2 => show w.heap.size + 2 ≤ i from by have h3 : i = p := h2; have := HWl.out; omega) (fun h2 => by have := HE3.out.size; have := HT3.out.lt; omega))
  clear hk4 HPu2 t0 hO4 hR4a hR4b HV3 HT3
  rw [show errV 0 = .nilIface from rfl]
  go_wp2_with (first | (refine wpList_loadB rfl 36 (.tmp 2) rfl w.heap.size rfl 36 _ HV4.out _ Tryz.underlying36 infoVe ?_))
  refine (HCd2.out _ HE4.out).mono ?_; rintro e w5 ⟨rfl, hb5⟩
  have HE5 := Lib.hid (HE4.out.trans hb5)
  have HV5 := Lib.hid (HV4.out.ext hb5); have HT5 := Lib.hid (HT4.out.ext hb5)
  have HO5 := Lib.hid (HO4.out.ext hb5)
  clear hb5
  have t1c : w5.cell? ⟨w.heap.size + 1, 1, none⟩ = some (.int .i64 t2) := HT5.out.cell 1
  go_wp2_with (first | (refine wpList_loadB rfl 36 (.tmp 2) rfl w.heap.size rfl 36 _ HV5.out _ Tryz.underlying36 infoVe ?_))
  obtain ⟨hB, hK⟩ := HBK.out
  have HTa := Lib.hid (fun w' => base_TimeO t1 w'); have HTb := Lib.hid (fun w' => base_TimeO t2 w')
  by_cases hlt : cl55 t2 < cl55 t1
  · have HPu := Lib.hid (pub_v (t := t2) HO5.out (HAt.out.ext HE5.out) Hv.out HSz2.out (pub_ord hB (by show ¬ 4096 ≤ 1; decide) hK rfl hlt) (HEg.out _ HE5.out).1)
    rw [HMv.out] at HPu
    clear hB hK HBK
    generalize cl55 t1 = c1 at *
    generalize cl55 t2 = c2 at *
    refine HPu.out.mono ?_; rintro e w6 ⟨rfl, R6, -, hk6, -, -⟩
    have HE6 := Lib.hid (HE5.out.keeps hk6 (fun i hi => by have := HR4.out i hi; omega))
    have HT6 := Lib.hid (HT5.out.keep hk6 (fun hi => by have := HR4.out _ hi; omega))
    clear hk6 HPu t1c
    rw [show errV 7 = .iface 63 (.int .i64 7) from rfl]
    go_upto_region 11 with fail
    have HS := Lib.hid (fun w' (hx : Ext w6 w') => (⟨(HT6.out.ext hx).cell 0, (HT6.out.ext hx).cell 1⟩ : w'.cell? ⟨w.heap.size + 1, 0, none⟩ = some (.int .i64 t1) ∧ w'.cell? ⟨w.heap.size + 1, 1, none⟩ = some (.int .i64 t2)))
    have hE := (Ext.refl w6).drew
    refine wp_region_held_drew (S := (fun w' => w'.cell? ⟨w.heap.size + 1, 0, none⟩ = some (.int .i64 t1) ∧ w'.cell? ⟨w.heap.size + 1, 1, none⟩ = some (.int .i64 t2))) (by kernel_rfl) ?_ (fun hHeld => ?_)
    · (try dsimp only); exact HS.out _ hE
    refine wpAnyH_take (i := 0) (oi := { dst := some 54, op := _, type := _, pos := _, after := _, guard := _ }) (v := ?_) rfl (by kernel_rfl) (by kernel_rfl) (by kernel_rfl) (fun _ _ _ h => h) (Or.inl ⟨by rfl, ?_⟩) (by assumption) ?_
    rotate_left
    · (intro w hSw; (try dsimp only at hSw); go_simp; (try with_reducible rfl))
    (try simp only [Act.put, List.setIfInBounds_toArray, List.set_cons_zero, List.set_cons_succ])
    refine wpAnyH_take (i := 1) (oi := { dst := some 55, op := _, type := _, pos := _, after := _, guard := _ }) (v := ?_) rfl (by kernel_rfl) (by kernel_rfl) (by kernel_rfl) (fun _ _ _ h => h) (Or.inl ⟨by rfl, ?_⟩) (by assumption) ?_
    rotate_left
    · (intro w hSw; (try dsimp only at hSw); go_simp; (try with_reducible rfl))
    (try simp only [Act.put, List.setIfInBounds_toArray, List.set_cons_zero, List.set_cons_succ])
    refine wpAnyH_take (i := 3) (oi := { dst := some 57, op := _, type := _, pos := _, after := _, guard := _ }) (v := ?_) rfl (by kernel_rfl) (by kernel_rfl) (by kernel_rfl) (fun _ _ _ h => h) (Or.inl ⟨by rfl, ?_⟩) (by assumption) ?_
    rotate_left
    · (intro w hSw; (try dsimp only at hSw); go_simp; (try with_reducible rfl))
    (try simp only [Act.put, List.setIfInBounds_toArray, List.set_cons_zero, List.set_cons_succ])
    refine wpAnyH_take (i := 4) (oi := { dst := some 58, op := _, type := _, pos := _, after := _, guard := _ }) (v := ?_) rfl (by kernel_rfl) (by kernel_rfl) (by kernel_rfl) (fun _ _ _ h => h) (Or.inl ⟨by rfl, ?_⟩) (by assumption) ?_
    rotate_left
    · (intro w hSw; (try dsimp only at hSw); go_simp; (try with_reducible rfl))
    (try simp only [Act.put, List.setIfInBounds_toArray, List.set_cons_zero, List.set_cons_succ])
    refine wpAnyH_ready (rs := [2]) (by kernel_rfl) (by simp) ?_
    refine AllReadyH.cons (o := { dst := some 56, op := _, type := _, pos := _, after := _, guard := _ }) rfl (fun K hK => ?_) AllReadyH.nil
    go_simp
    refine (HTb.out _).mono ?_; rintro e wX ⟨rfl, rfl⟩
    try go_wp2_with fail
    refine hK.out _ _ ?_ (fun hHeld => ?_)
    · (try dsimp only); exact HS.out _ hE
    clear hK K
    (try simp only [Act.put, List.setIfInBounds_toArray, List.set_cons_zero, List.set_cons_succ])
    refine wpAnyH_ready (rs := [5]) (by kernel_rfl) (by simp) ?_
    refine AllReadyH.cons (o := { dst := some 59, op := _, type := _, pos := _, after := _, guard := _ }) rfl (fun K hK => ?_) AllReadyH.nil
    go_simp
    refine (HTa.out _).mono ?_; rintro e wX ⟨rfl, rfl⟩
    try go_wp2_with fail
    refine hK.out _ _ ?_ (fun hHeld => ?_)
    · (try dsimp only); exact HS.out _ hE
    clear hK K
    (try simp only [Act.put, List.setIfInBounds_toArray, List.set_cons_zero, List.set_cons_succ])
    refine wpAnyH_take (i := 6) (oi := { dst := some 60, op := _, type := _, pos := _, after := _, guard := _ }) (v := ?_) rfl (by kernel_rfl) (by kernel_rfl) (by kernel_rfl) (fun _ _ _ h => h) (Or.inl ⟨by rfl, ?_⟩) (by assumption) ?_
    rotate_left
    · (intro w hSw; (try dsimp only at hSw); go_simp; (try with_reducible rfl))
    (try simp only [Act.put, List.setIfInBounds_toArray, List.set_cons_zero, List.set_cons_succ])
    refine wpAnyH_done (by kernel_rfl) ?_ _
    go_wp2_with fail
    refine (base_Is 7 7 (by decide) (by decide) (by decide) _).mono ?_; rintro e w8 ⟨rfl, hb8⟩
    go_wp2_with fail
    go_ret
    exact ⟨rfl, (HE6.out.trans hE).trans hb8⟩
  · have hP2 : pubS (⟨[(cl55 t1, v)], [], []⟩ : Org) t2 v = (2, 0, ⟨[(cl55 t1, v)] ++ [(cl55 t2, v)], [], []⟩) := pub_ok (o := ⟨[(cl55 t1, v)], [], []⟩) (t := t2) hB (by show ¬ 4096 ≤ 1; decide) hK (fun p hp => by
      have e9 : (cl55 t1, v) = p := by simpa using hp
      rw [← e9]; exact hlt)
    have HPu := Lib.hid (pub_v (t := t2) HO5.out (HAt.out.ext HE5.out) Hv.out HSz2.out hP2 (HEg.out _ HE5.out).1)
    rw [HMv.out] at HPu
    clear hB hK HBK hP2
    generalize cl55 t1 = c1 at *
    generalize cl55 t2 = c2 at *
    refine HPu.out.mono ?_; rintro e w6 ⟨rfl, R6, -, hk6, -, -⟩
    have HE6 := Lib.hid (HE5.out.keeps hk6 (fun i hi => by have := HR4.out i hi; omega))
    have HT6 := Lib.hid (HT5.out.keep hk6 (fun hi => by have := HR4.out _ hi; omega))
    clear hk6 HPu t1c
    rw [show errV 0 = .nilIface from rfl]
    go_upto_region 11 with fail
    have HS := Lib.hid (fun w' (hx : Ext w6 w') => (⟨(HT6.out.ext hx).cell 0, (HT6.out.ext hx).cell 1⟩ : w'.cell? ⟨w.heap.size + 1, 0, none⟩ = some (.int .i64 t1) ∧ w'.cell? ⟨w.heap.size + 1, 1, none⟩ = some (.int .i64 t2)))
    have hE := (Ext.refl w6).drew
    refine wp_region_held_drew (S := (fun w' => w'.cell? ⟨w.heap.size + 1, 0, none⟩ = some (.int .i64 t1) ∧ w'.cell? ⟨w.heap.size + 1, 1, none⟩ = some (.int .i64 t2))) (by kernel_rfl) ?_ (fun hHeld => ?_)
    · (try dsimp only); exact HS.out _ hE
    refine wpAnyH_take (i := 0) (oi := { dst := some 54, op := _, type := _, pos := _, after := _, guard := _ }) (v := ?_) rfl (by kernel_rfl) (by kernel_rfl) (by kernel_rfl) (fun _ _ _ h => h) (Or.inl ⟨by rfl, ?_⟩) (by assumption) ?_
    rotate_left
    · (intro w hSw; (try dsimp only at hSw); go_simp; (try with_reducible rfl))
    (try simp only [Act.put, List.setIfInBounds_toArray, List.set_cons_zero, List.set_cons_succ])
    refine wpAnyH_take (i := 1) (oi := { dst := some 55, op := _, type := _, pos := _, after := _, guard := _ }) (v := ?_) rfl (by kernel_rfl) (by kernel_rfl) (by kernel_rfl) (fun _ _ _ h => h) (Or.inl ⟨by rfl, ?_⟩) (by assumption) ?_
    rotate_left
    · (intro w hSw; (try dsimp only at hSw); go_simp; (try with_reducible rfl))
    (try simp only [Act.put, List.setIfInBounds_toArray, List.set_cons_zero, List.set_cons_succ])
    refine wpAnyH_take (i := 3) (oi := { dst := some 57, op := _, type := _, pos := _, after := _, guard := _ }) (v := ?_) rfl (by kernel_rfl) (by kernel_rfl) (by kernel_rfl) (fun _ _ _ h => h) (Or.inl ⟨by rfl, ?_⟩) (by assumption) ?_
    rotate_left
    · (intro w hSw; (try dsimp only at hSw); go_simp; (try with_reducible rfl))
    (try simp only [Act.put, List.setIfInBounds_toArray, List.set_cons_zero, List.set_cons_succ])
    refine wpAnyH_take (i := 4) (oi := { dst := some 58, op := _, type := _, pos := _, after := _, guard := _ }) (v := ?_) rfl (by kernel_rfl) (by kernel_rfl) (by kernel_rfl) (fun _ _ _ h => h) (Or.inl ⟨by rfl, ?_⟩) (by assumption) ?_
    rotate_left
    · (intro w hSw; (try dsimp only at hSw); go_simp; (try with_reducible rfl))
    (try simp only [Act.put, List.setIfInBounds_toArray, List.set_cons_zero, List.set_cons_succ])
    refine wpAnyH_ready (rs := [2]) (by kernel_rfl) (by simp) ?_
    refine AllReadyH.cons (o := { dst := some 56, op := _, type := _, pos := _, after := _, guard := _ }) rfl (fun K hK => ?_) AllReadyH.nil
    go_simp
    refine (HTb.out _).mono ?_; rintro e wX ⟨rfl, rfl⟩
    try go_wp2_with fail
    refine hK.out _ _ ?_ (fun hHeld => ?_)
    · (try dsimp only); exact HS.out _ hE
    clear hK K
    (try simp only [Act.put, List.setIfInBounds_toArray, List.set_cons_zero, List.set_cons_succ])
    refine wpAnyH_ready (rs := [5]) (by kernel_rfl) (by simp) ?_
    refine AllReadyH.cons (o := { dst := some 59, op := _, type := _, pos := _, after := _, guard := _ }) rfl (fun K hK => ?_) AllReadyH.nil
    go_simp
    refine (HTa.out _).mono ?_; rintro e wX ⟨rfl, rfl⟩
    try go_wp2_with fail
    refine hK.out _ _ ?_ (fun hHeld => ?_)
    · (try dsimp only); exact HS.out _ hE
    clear hK K
    (try simp only [Act.put, List.setIfInBounds_toArray, List.set_cons_zero, List.set_cons_succ])
    refine wpAnyH_take (i := 6) (oi := { dst := some 60, op := _, type := _, pos := _, after := _, guard := _ }) (v := ?_) rfl (by kernel_rfl) (by kernel_rfl) (by kernel_rfl) (fun _ _ _ h => h) (Or.inl ⟨by rfl, ?_⟩) (by assumption) ?_
    rotate_left
    · (intro w hSw; (try dsimp only at hSw); go_simp; (try with_reducible rfl))
    (try simp only [Act.put, List.setIfInBounds_toArray, List.set_cons_zero, List.set_cons_succ])
    refine wpAnyH_done (by kernel_rfl) ?_ _
    go_wp2_with fail
    go_ret
    exact ⟨rfl, HE6.out.trans hE⟩
end Go.Proofs.YtmckbcbdnckngaaGreatDoor

namespace Go.Proofs.YtmckbcbdnckngaaGreatDoor
open Go.ChangeShapes Go.WideShapes Go.Deep Go.RowKit

section
variable {H : Type} {enc : TypeId × Value → H} {P : Program} {w : World} {base : Nat} {spare : Nat → Bool} {held : Bool}
/-- A slice of pairs of strings, opened, with its bulk. -/
theorem open_fldsU {t e S : TypeId} {A : Option Addr} {n c : Nat} {d : DataW H} {p : List MemPlace} (ht : P.underlying t = some (.slice e)) (he : TwoStr P e S)
    (h : DataW.Trod enc P w base spare held t (.slice A n c) d p) :
    ∃ L : List Fd, RdF w A n L ∧ n ≤ maxLen ∧ n ≤ c ∧ 3 * L.length + sumF L + 1 ≤ Rows.uptoBulk d := by
  obtain ⟨fuel, hf⟩ := h
  have hf' : DataW.trod enc P w base spare held fuel t [.slice A n c] = some (d, p) := by simpa [Value.cells] using hf
  rcases open_slice ht hf' with ⟨hcs, hx⟩ | ⟨a, len, cap, m, k, D, Pl, hcs, hb, hl, hm, hmm, hx, hi⟩
  · simp only [List.cons.injEq, Value.slice.injEq, and_true] at hcs
    obtain ⟨rfl, rfl, rfl⟩ := hcs
    exact ⟨[], Rd.none_ _ _ _, by simp [maxLen], Nat.le_refl _, by obtain rfl : d = .nil := congrArg Prod.fst hx; simp [sumF, Rows.uptoBulk]⟩
  · simp only [List.cons.injEq, Value.slice.injEq, and_true] at hcs
    obtain ⟨rfl, rfl, rfl⟩ := hcs
    obtain ⟨f0, f1, hu, t0, t1, o0, o1, hS, hc, hce⟩ := id he
    rw [hce] at hi
    have hnm : n ≤ m := by rw [hmm]; split <;> omega
    obtain ⟨F, hF⟩ := choose_lt (α := Fd) (n := m) (p := fun i f => w.cell? (a.add (i * 2)) = some (.string f.1) ∧ w.cell? (a.add (i * 2 + 1)) = some (.string f.2) ∧ D i = .agg [.lit (.string f.1.data.toList), .lit (.string f.2.data.toList)]) (fun i him => by
      obtain ⟨cs', h1, h2⟩ := hi i him
      obtain ⟨_, _, hat⟩ := World.cells?_some h1
      obtain ⟨u, v, rfl, hd, _, _⟩ := trod_twoStr he h2
      have c0 := hat 0 (by omega)
      have c1 := hat 1 (by omega)
      rw [Go.Deep.add_add] at c0 c1
      exact ⟨(u, v), by simpa using c0, by simpa using c1, hd⟩)
    have hlen : ((List.range n).map F).length = n := by simp
    refine ⟨(List.range n).map F, ⟨by rw [fldCells_len, hlen], fun hpos => ?_⟩, by omega, hl, ?_⟩
    · have hn0 : 0 < n := by rw [fldCells_len, hlen] at hpos; omega
      obtain ⟨b, o, sp⟩ := a
      have hsp : sp = none := by simpa [Addr.add] using World.cell?_spot (hF 0 (by omega)).1
      subst hsp
      refine ⟨b, o, rfl, fun j u hj => ?_⟩
      have hjl : j < n * 2 := by
        have := (List.getElem?_eq_some_iff.1 hj).1
        rw [fldCells_len, hlen] at this; exact this
      have hlt : j / 2 < ((List.range n).map F).length := by rw [hlen]; omega
      have hcells := hF (j / 2) (by omega)
      rw [add_plain, add_plain] at hcells
      have hFe : ((List.range n).map F)[j / 2] = F (j / 2) := by simp
      rcases Nat.mod_two_eq_zero_or_one j with h0 | h1
      · have e : j = j / 2 * 2 := by omega
        rw [e, fldCells_at0 _ _ hlt, hFe] at hj
        rw [e, ← hj]
        have e2 : j / 2 * 2 / 2 = j / 2 := by omega
        exact hcells.1
      · have e : j = j / 2 * 2 + 1 := by omega
        rw [e, fldCells_at1 _ _ hlt, hFe] at hj
        rw [e, ← hj]
        exact hcells.2.1
    · have hx1 : d = DataW.slice ((List.range n).map D) ((List.range (m - n)).map fun j => D (n + j)) := congrArg Prod.fst hx
      have hm2 : (List.range n).map D = ((List.range n).map F).map fun f => DataW.agg [.lit (.string f.1.data.toList), .lit (.string f.2.data.toList)] := by
        rw [List.map_map]
        exact List.map_congr_left fun i hi => (hF i (by have := List.mem_range.1 hi; omega)).2.2
      rw [hx1, hm2]
      simp only [Rows.uptoBulk]
      have := bulk_flds (H := H) ((List.range n).map F)
      omega
end
end Go.Proofs.YtmckbcbdnckngaaGreatDoor

namespace Go.Proofs.YtmckbcbdnckngaaGreatDoor
open Go.ChangeShapes Go.WideShapes Go.RowKit Go.Deep Go.Joins
section
variable {H : Type} {enc : TypeId × Value → H} {w : World} {base : Nat} {spare : Nat → Bool} {held : Bool}
theorem c_slice {P : Program} {t e : TypeId} {fuel : Nat} {cs : List Value} {x : DataW H × List MemPlace} (ht : P.underlying t = some (.slice e)) (h : DataW.trod enc P w base spare held fuel t cs = some x) :
    ∃ A n c, cs = [.slice A n c] ∧ DataW.Trod enc P w base spare held t (.slice A n c) x.1 x.2 := by
  rcases open_slice ht h with ⟨rfl, hx⟩ | ⟨a, len, cap, m, k, D, Pl, rfl, hb, hl, hm, hmm, hx, hi⟩
  · exact ⟨_, _, _, rfl, fuel, by simpa [Value.cells] using h⟩
  · exact ⟨_, _, _, rfl, fuel, by simpa [Value.cells] using h⟩
theorem open_agg {P : Program} {r : Reach} {b0 : Nat} {t : TypeId} {fs : Array Field} {v : Value} {d : DataW H} {p : List MemPlace} (hs : P.underlying t = some (.struct fs)) (hv : Value.okWide P w r b0 t v) (h : DataW.Trod enc P w base spare held t v d p) :
    ∃ (cs : Array Value) (fuel : Nat), v = .agg cs ∧ DataW.trod enc P w base spare held fuel t cs.toList = some (d, p) := by
  obtain ⟨cs, rfl, hsz⟩ := okWide_struct hs hv
  obtain ⟨fuel, hf⟩ := h
  exact ⟨cs, fuel, rfl, by simpa [Value.cells] using hf⟩
set_option maxRecDepth 100000 in
theorem c_Vt {fuel : Nat} {cs : List Value} {x : DataW H × List MemPlace} (h : DataW.trod enc Tryz.prog w base spare held fuel 58 cs = some x) :
    ∃ (x_0A : Option Addr) (x_0n : Nat) (x_0c : Nat) (x_0d : DataW H) (x_0p : List MemPlace) (x_1 : ByteArray) (x_2 : ByteArray) (x_3A : Option Addr) (x_3n : Nat) (x_3c : Nat) (x_3d : DataW H) (x_3p : List MemPlace), cs = [.slice x_0A x_0n x_0c, .string x_1, .string x_2, .slice x_3A x_3n x_3c] ∧ x.1 = .agg [x_0d, .lit (.string x_1.data.toList), .lit (.string x_2.data.toList), x_3d] ∧ (DataW.Trod enc Tryz.prog w base spare held 53 (.slice x_0A x_0n x_0c) x_0d x_0p ∧ x_1.size ≤ maxLen ∧ x_2.size ≤ maxLen ∧ DataW.Trod enc Tryz.prog w base spare held 23 (.slice x_3A x_3n x_3c) x_3d x_3p) := by
  obtain ⟨xs, n, _, rfl, hl, hlen, hf⟩ := DataW.trod_struct Tryz.underlying58 h
  rw [show Tryz.prog.cellsOf 58 = 4 from by kernel_rfl] at hl
  match cs, hl with
  | [c0, c1, c2, c3], _ =>
  have hlen : xs.length = 4 := hlen
  match xs, hlen with
  | [y0, y1, y2, y3], _ =>
    have g0 : DataW.trod enc Tryz.prog w base spare held n 53 (([c0, c1, c2, c3].drop 0).take (Tryz.prog.cellsOf 53)) = [y0, y1, y2, y3][0]? := hf 0 _ rfl
    have g1 : DataW.trod enc Tryz.prog w base spare held n 9 (([c0, c1, c2, c3].drop 1).take (Tryz.prog.cellsOf 9)) = [y0, y1, y2, y3][1]? := hf 1 _ rfl
    have g2 : DataW.trod enc Tryz.prog w base spare held n 9 (([c0, c1, c2, c3].drop 2).take (Tryz.prog.cellsOf 9)) = [y0, y1, y2, y3][2]? := hf 2 _ rfl
    have g3 : DataW.trod enc Tryz.prog w base spare held n 23 (([c0, c1, c2, c3].drop 3).take (Tryz.prog.cellsOf 23)) = [y0, y1, y2, y3][3]? := hf 3 _ rfl
    rw [show Tryz.prog.cellsOf 53 = 1 from by kernel_rfl] at g0
    simp only [List.drop_succ_cons, List.drop_zero, List.take_succ_cons, List.take_zero, List.getElem?_cons_succ, List.getElem?_cons_zero] at g0
    obtain ⟨x_0A, x_0n, x_0c, e0, f0_0⟩ := c_slice Tryz.underlying53 g0
    simp only [List.cons.injEq, and_true] at e0
    subst e0
    rw [show Tryz.prog.cellsOf 9 = 1 from by kernel_rfl] at g1
    simp only [List.drop_succ_cons, List.drop_zero, List.take_succ_cons, List.take_zero, List.getElem?_cons_succ, List.getElem?_cons_zero] at g1
    obtain ⟨x_1, e1, d1, f1_0⟩ := DataW.trod_string Tryz.underlying9 g1
    simp only [List.cons.injEq, and_true] at e1
    subst e1
    rw [show Tryz.prog.cellsOf 9 = 1 from by kernel_rfl] at g2
    simp only [List.drop_succ_cons, List.drop_zero, List.take_succ_cons, List.take_zero, List.getElem?_cons_succ, List.getElem?_cons_zero] at g2
    obtain ⟨x_2, e2, d2, f2_0⟩ := DataW.trod_string Tryz.underlying9 g2
    simp only [List.cons.injEq, and_true] at e2
    subst e2
    rw [show Tryz.prog.cellsOf 23 = 1 from by kernel_rfl] at g3
    simp only [List.drop_succ_cons, List.drop_zero, List.take_succ_cons, List.take_zero, List.getElem?_cons_succ, List.getElem?_cons_zero] at g3
    obtain ⟨x_3A, x_3n, x_3c, e3, f3_0⟩ := c_slice Tryz.underlying23 g3
    simp only [List.cons.injEq, and_true] at e3
    subst e3
    refine ⟨x_0A, x_0n, x_0c, _, _, x_1, x_2, x_3A, x_3n, x_3c, _, _, rfl, ?_, f0_0, f1_0, f2_0, f3_0⟩
    simp only [List.map_cons, List.map_nil, show y1.1 = _ from congrArg Prod.fst d1, show y2.1 = _ from congrArg Prod.fst d2]
set_option maxRecDepth 100000 in
theorem c_Ve {fuel : Nat} {cs : List Value} {x : DataW H × List MemPlace} (h : DataW.trod enc Tryz.prog w base spare held fuel 36 cs = some x) :
    ∃ (x_0 : ByteArray) (x_1 : Int) (x_2A : Option Addr) (x_2n : Nat) (x_2c : Nat) (x_2d : DataW H) (x_2p : List MemPlace) (x_3A : Option Addr) (x_3n : Nat) (x_3c : Nat) (x_3d : DataW H) (x_3p : List MemPlace) (x_4A : Option Addr) (x_4n : Nat) (x_4c : Nat) (x_4d : DataW H) (x_4p : List MemPlace), cs = [.string x_0, .int .i64 x_1, .slice x_2A x_2n x_2c, .slice x_3A x_3n x_3c, .slice x_4A x_4n x_4c] ∧ x.1 = .agg [.lit (.string x_0.data.toList), .lit (.int .i64 x_1), x_2d, x_3d, x_4d] ∧ (x_0.size ≤ maxLen ∧ (Lit.int .i64 x_1).wf = true ∧ DataW.Trod enc Tryz.prog w base spare held 33 (.slice x_2A x_2n x_2c) x_2d x_2p ∧ DataW.Trod enc Tryz.prog w base spare held 23 (.slice x_3A x_3n x_3c) x_3d x_3p ∧ DataW.Trod enc Tryz.prog w base spare held 34 (.slice x_4A x_4n x_4c) x_4d x_4p) := by
  obtain ⟨xs, n, _, rfl, hl, hlen, hf⟩ := DataW.trod_struct Tryz.underlying36 h
  rw [show Tryz.prog.cellsOf 36 = 5 from by kernel_rfl] at hl
  match cs, hl with
  | [c0, c1, c2, c3, c4], _ =>
  have hlen : xs.length = 5 := hlen
  match xs, hlen with
  | [y0, y1, y2, y3, y4], _ =>
    have g0 : DataW.trod enc Tryz.prog w base spare held n 9 (([c0, c1, c2, c3, c4].drop 0).take (Tryz.prog.cellsOf 9)) = [y0, y1, y2, y3, y4][0]? := hf 0 _ rfl
    have g1 : DataW.trod enc Tryz.prog w base spare held n 3 (([c0, c1, c2, c3, c4].drop 1).take (Tryz.prog.cellsOf 3)) = [y0, y1, y2, y3, y4][1]? := hf 1 _ rfl
    have g2 : DataW.trod enc Tryz.prog w base spare held n 33 (([c0, c1, c2, c3, c4].drop 2).take (Tryz.prog.cellsOf 33)) = [y0, y1, y2, y3, y4][2]? := hf 2 _ rfl
    have g3 : DataW.trod enc Tryz.prog w base spare held n 23 (([c0, c1, c2, c3, c4].drop 3).take (Tryz.prog.cellsOf 23)) = [y0, y1, y2, y3, y4][3]? := hf 3 _ rfl
    have g4 : DataW.trod enc Tryz.prog w base spare held n 34 (([c0, c1, c2, c3, c4].drop 4).take (Tryz.prog.cellsOf 34)) = [y0, y1, y2, y3, y4][4]? := hf 4 _ rfl
    rw [show Tryz.prog.cellsOf 9 = 1 from by kernel_rfl] at g0
    simp only [List.drop_succ_cons, List.drop_zero, List.take_succ_cons, List.take_zero, List.getElem?_cons_succ, List.getElem?_cons_zero] at g0
    obtain ⟨x_0, e0, d0, f0_0⟩ := DataW.trod_string Tryz.underlying9 g0
    simp only [List.cons.injEq, and_true] at e0
    subst e0
    rw [show Tryz.prog.cellsOf 3 = 1 from by kernel_rfl] at g1
    simp only [List.drop_succ_cons, List.drop_zero, List.take_succ_cons, List.take_zero, List.getElem?_cons_succ, List.getElem?_cons_zero] at g1
    obtain ⟨x_1, e1, d1, f1_0⟩ := DataW.trod_int Tryz.underlying3 g1
    simp only [List.cons.injEq, and_true] at e1
    subst e1
    rw [show Tryz.prog.cellsOf 33 = 1 from by kernel_rfl] at g2
    simp only [List.drop_succ_cons, List.drop_zero, List.take_succ_cons, List.take_zero, List.getElem?_cons_succ, List.getElem?_cons_zero] at g2
    obtain ⟨x_2A, x_2n, x_2c, e2, f2_0⟩ := c_slice Tryz.underlying33 g2
    simp only [List.cons.injEq, and_true] at e2
    subst e2
    rw [show Tryz.prog.cellsOf 23 = 1 from by kernel_rfl] at g3
    simp only [List.drop_succ_cons, List.drop_zero, List.take_succ_cons, List.take_zero, List.getElem?_cons_succ, List.getElem?_cons_zero] at g3
    obtain ⟨x_3A, x_3n, x_3c, e3, f3_0⟩ := c_slice Tryz.underlying23 g3
    simp only [List.cons.injEq, and_true] at e3
    subst e3
    rw [show Tryz.prog.cellsOf 34 = 1 from by kernel_rfl] at g4
    simp only [List.drop_succ_cons, List.drop_zero, List.take_succ_cons, List.take_zero, List.getElem?_cons_succ, List.getElem?_cons_zero] at g4
    obtain ⟨x_4A, x_4n, x_4c, e4, f4_0⟩ := c_slice Tryz.underlying34 g4
    simp only [List.cons.injEq, and_true] at e4
    subst e4
    refine ⟨x_0, x_1, x_2A, x_2n, x_2c, _, _, x_3A, x_3n, x_3c, _, _, x_4A, x_4n, x_4c, _, _, rfl, ?_, f0_0, f1_0, f2_0, f3_0, f4_0⟩
    simp only [List.map_cons, List.map_nil, show y0.1 = _ from congrArg Prod.fst d0, show y1.1 = _ from congrArg Prod.fst d1]
set_option maxRecDepth 100000 in
theorem open_Ve {r : Reach} {b0 : Nat} {v : Value} {d : DataW H} {p : List MemPlace} (hv : Value.okWide Tryz.prog w r b0 36 v) (h : DataW.Trod enc Tryz.prog w base spare held 36 v d p) :
    ∃ (x_0 : ByteArray) (x_1 : Int) (x_2A : Option Addr) (x_2n : Nat) (x_2c : Nat) (x_2d : DataW H) (x_2p : List MemPlace) (x_3A : Option Addr) (x_3n : Nat) (x_3c : Nat) (x_3d : DataW H) (x_3p : List MemPlace) (x_4A : Option Addr) (x_4n : Nat) (x_4c : Nat) (x_4d : DataW H) (x_4p : List MemPlace), v = .agg #[.string x_0, .int .i64 x_1, .slice x_2A x_2n x_2c, .slice x_3A x_3n x_3c, .slice x_4A x_4n x_4c] ∧ d = .agg [.lit (.string x_0.data.toList), .lit (.int .i64 x_1), x_2d, x_3d, x_4d] ∧ (x_0.size ≤ maxLen ∧ (Lit.int .i64 x_1).wf = true ∧ DataW.Trod enc Tryz.prog w base spare held 33 (.slice x_2A x_2n x_2c) x_2d x_2p ∧ DataW.Trod enc Tryz.prog w base spare held 23 (.slice x_3A x_3n x_3c) x_3d x_3p ∧ DataW.Trod enc Tryz.prog w base spare held 34 (.slice x_4A x_4n x_4c) x_4d x_4p) := by
  obtain ⟨⟨cs⟩, fuel, rfl, hf⟩ := open_agg Tryz.underlying36 hv h
  obtain ⟨x_0, x_1, x_2A, x_2n, x_2c, x_2d, x_2p, x_3A, x_3n, x_3c, x_3d, x_3p, x_4A, x_4n, x_4c, x_4d, x_4p, hcs, hd, hfa⟩ := c_Ve hf
  exact ⟨x_0, x_1, x_2A, x_2n, x_2c, x_2d, x_2p, x_3A, x_3n, x_3c, x_3d, x_3p, x_4A, x_4n, x_4c, x_4d, x_4p, by rw [show cs = _ from hcs], hd, hfa⟩
theorem fieldTwo : TwoStr Tryz.prog 51 9 := ⟨_, _, Tryz.underlying51, rfl, rfl, rfl, rfl, Tryz.underlying9, by kernel_rfl, by kernel_rfl⟩
theorem open_bytS {A : Option Addr} {n c : Nat} {d : DataW H} {p : List MemPlace} (h : DataW.Trod enc Tryz.prog w base spare held 23 (.slice A n c) d p) :
    ∃ b : ByteArray, RS (fun _ => False) w 1 ⟨A, n, c⟩ (bytC b) ∧ b.size + 1 ≤ Rows.uptoBulk d := by
  obtain ⟨fuel, hf⟩ := h
  have hf' : DataW.trod enc Tryz.prog w base spare held fuel 23 [.slice A n c] = some (d, p) := by simpa [Value.cells] using hf
  obtain ⟨b, s, e1, e2, -, e4⟩ := open_bytT Tryz.underlying23 Tryz.underlying5 (by kernel_rfl) hf'
  simp only [List.cons.injEq, and_true] at e1
  have e5 : s = ⟨A, n, c⟩ := by
    obtain ⟨a, b, d⟩ := s
    unfold Sl.v at e1
    injection e1 with e1 e2 e3
    subst e1 e2 e3; rfl
  subst e5
  exact ⟨b, e2, e4⟩
def blkX (x : Vr) : Nat := x.names.length + totS x.names + x.key.size + x.tag.size + x.body.size + 1
def blkV (m : MV) : Nat := m.addr.size + (3 * m.f.length + sumF m.f) + m.body.size + (m.vars.map fun x => blkX x.1).sum
theorem mk_vr {fuel : Nat} {cs : List Value} {x : DataW H × List MemPlace} (h : DataW.trod enc Tryz.prog w base spare held fuel 58 cs = some x) :
    ∃ a : Vr × VrM, cs = vrC a ∧ VrAt (fun _ => False) w a ∧ blkX a.1 ≤ Rows.uptoBulk x.1 := by
  obtain ⟨x_0A, x_0n, x_0c, x_0d, x_0p, x_1, x_2, x_3A, x_3n, x_3c, x_3d, x_3p, rfl, hd, h0, -, -, h3⟩ := c_Vt h
  obtain ⟨L, hL, -, hc, hb⟩ := open_strsL Tryz.underlying53 Tryz.underlying9 (by kernel_rfl) h0
  obtain ⟨b, hB, hbb⟩ := open_bytS h3
  refine ⟨(⟨L, x_1, x_2, b⟩, ⟨⟨x_0A, x_0n, x_0c⟩, ⟨x_3A, x_3n, x_3c⟩⟩), rfl, ⟨⟨hL, fun _ _ _ hf => hf, hc⟩, hB⟩, ?_⟩
  rw [hd]
  simp only [Rows.uptoBulk, Rows.uptoBulkAll, sz_data, blkX]
  omega
theorem sum_bulk {l : List ((Vr × VrM) × DataW H)} (h : ∀ y ∈ l, VrAt (fun _ => False) w y.1 ∧ blkX y.1.1 ≤ Rows.uptoBulk y.2) : ((l.map (·.1)).map fun x => blkX x.1).sum ≤ Rows.uptoBulkAll (l.map (·.2)) := by
  induction l with
  | nil => simp [Rows.uptoBulkAll]
  | cons y l ih =>
    have h1 := (h y (List.mem_cons_self ..)).2
    have h2 := ih (fun z hz => h z (List.mem_cons_of_mem _ hz))
    simp only [List.map_cons, List.sum_cons, Rows.uptoBulkAll]
    omega
/-- The parts of a version, put together. -/
theorem mk_ver {x_0 : ByteArray} {x_1 : Int} {x_2A : Option Addr} {x_2n x_2c : Nat} {x_2d : DataW H} {x_2p : List MemPlace} {x_3A : Option Addr} {x_3n x_3c : Nat} {x_3d : DataW H} {x_3p : List MemPlace} {x_4A : Option Addr} {x_4n x_4c : Nat} {x_4d : DataW H} {x_4p : List MemPlace}
    (h2 : DataW.Trod enc Tryz.prog w base spare held 33 (.slice x_2A x_2n x_2c) x_2d x_2p) (h3 : DataW.Trod enc Tryz.prog w base spare held 23 (.slice x_3A x_3n x_3c) x_3d x_3p) (h4 : DataW.Trod enc Tryz.prog w base spare held 34 (.slice x_4A x_4n x_4c) x_4d x_4p) :
    ∃ m : MV, [.string x_0, .int .i64 x_1, .slice x_2A x_2n x_2c, .slice x_3A x_3n x_3c, .slice x_4A x_4n x_4c] = m.cells ∧ m.At (fun _ => False) w ∧ blkV m ≤ Rows.uptoBulk (.agg [.lit (.string x_0.data.toList), .lit (.int .i64 x_1), x_2d, x_3d, x_4d]) := by
  obtain ⟨f, hf, -, hfc, hfb⟩ := open_fldsU Tryz.underlying33 fieldTwo h2
  obtain ⟨b, hB, hbb⟩ := open_bytS h3
  obtain ⟨fuel, hv⟩ := h4
  have hv' : DataW.trod enc Tryz.prog w base spare held fuel 34 [.slice x_4A x_4n x_4c] = some (x_4d, x_4p) := by simpa [Value.cells] using hv
  haveI : Inhabited (Vr × VrM) := ⟨(⟨[], ⟨#[]⟩, ⟨#[]⟩, ⟨#[]⟩⟩, ⟨sl0, sl0⟩)⟩
  obtain ⟨A, n, c, L, hcs, hr, -, hc, hl, hy, hbl, -⟩ := open_slT (α := Vr × VrM) (k := 4) Tryz.underlying34 (by kernel_rfl) (by decide) vrC (fun _ => rfl) (fun a d => VrAt (fun _ => False) w a ∧ blkX a.1 ≤ Rows.uptoBulk d) (fun fuel cs x hx => mk_vr hx) hv'
  simp only [List.cons.injEq, Value.slice.injEq, and_true] at hcs
  obtain ⟨rfl, rfl, rfl⟩ := hcs
  have hsb := sum_bulk hy
  have hbl2 : Rows.uptoBulkAll (L.map (·.2)) + 1 ≤ Rows.uptoBulk x_4d := hbl
  obtain ⟨V, hV⟩ : ∃ V : List (Vr × VrM), L.map (·.1) = V := ⟨_, rfl⟩
  rw [hV] at hr hsb
  refine ⟨⟨x_0, x_1, f, b, V, ⟨x_2A, x_2n, x_2c⟩, ⟨x_3A, x_3n, x_3c⟩, ⟨x_4A, x_4n, x_4c⟩⟩, rfl, ⟨⟨hf, fun _ _ _ hf => hf, hfc⟩, hB, ⟨hr, fun _ _ _ hf => hf, hc⟩, fun x hx => ?_⟩, ?_⟩
  · rw [← hV] at hx
    obtain ⟨z, hz, rfl⟩ := List.mem_map.1 hx
    exact (hy z hz).1
  · simp only [Rows.uptoBulk, Rows.uptoBulkAll, sz_data, blkV]
    omega
theorem blk_len {l : List (Vr × VrM)} : l.length ≤ (l.map fun x => blkX x.1).sum ∧ ∀ x ∈ l, blkX x.1 ≤ (l.map fun x => blkX x.1).sum := by
  induction l with
  | nil => exact ⟨Nat.le_refl _, fun x hx => by cases hx⟩
  | cons y l ih =>
    have h0 : 1 ≤ blkX y.1 := by unfold blkX; omega
    simp only [List.map_cons, List.sum_cons, List.length_cons]
    refine ⟨by omega, fun x hx => ?_⟩
    rcases List.mem_cons.1 hx with rfl | hx
    · omega
    · have := ih.2 x hx; omega
end
end Go.Proofs.YtmckbcbdnckngaaGreatDoor

namespace Go.Proofs.YtmckbcbdnckngaaGreatDoor
open Go.RowKit

theorem szA_blk (m : MV) : szA (acV m) ≤ 12 * blkV m := by
  have h : (m.vars.map fun x => szX x.1).sum ≤ 12 * (m.vars.map fun x => blkX x.1).sum := by
    generalize m.vars = l
    induction l with
    | nil => exact Nat.le_refl _
    | cons y l ih =>
      have h0 : szX y.1 ≤ 12 * blkX y.1 := by
        have e : (y.1.names.map (·.size)).sum = totS y.1.names := rfl
        unfold szX blkX
        rw [e]; omega
      simp only [List.map_cons, List.sum_cons]
      omega
  have hs : szA (acV m) = m.addr.size + m.body.size + 0 + 0 + (sumF m.f + 4 * m.f.length) + (0 + 4 * 0) + (m.vars.map fun x => szX x.1).sum := rfl
  rw [hs]
  unfold blkV
  omega
theorem forms_walkV (m : MV) (t1 t2 : Int) (w : World) (h : m.At (fun _ => False) w) (hb : blkV m ≤ 1048576) (hg : Gl w) (hh : GlH w) (hp : GlP w) :
    Calls Tryz.prog 8 #[.agg m.cells.toArray, .agg #[.int .i64 t1, .int .i64 t2]] w fun e w' => e = .returned (.bool true) ∧ Ext w w' := by
  have h1 := szA_blk m
  have h2 := blk_len (l := m.vars)
  have hb2 : (m.vars.map fun x => blkX x.1).sum ≤ 1048576 := by unfold blkV at hb; omega
  refine forms_walk m t1 t2 w h (by omega) (by have := h2.1; omega) (fun x hx => ?_) hg hh hp
  have h3 := h2.2 x hx
  have h4 : blkX x.1 = x.1.names.length + totS x.1.names + x.1.key.size + x.1.tag.size + x.1.body.size + 1 := rfl
  omega
end Go.Proofs.YtmckbcbdnckngaaGreatDoor
