/- The walk of answer.part. Plain laws on lists of fields: Same is symmetric and reflexive; neighbors with different names may change places. No program in sight. Plain laws: what Set, Add and Remove do to the values of a name and of the others. No program in sight. The walks of ValidatorReads, ValidatorLists, ValidatorTags: each returns true. Plain laws of ValidatorPrecedence, ValidatorSafe, ValidatorRanges: what Evaluate and UseRange say of lists that Set, Add, Remove have changed. No program in sight. The walk of answer.version. The walk of Origin.choose. The sizes of an answer; httpdate.Floor. The walk of Origin.Answer. -/
import Derived.Test.YtmckbcbdnckngaaGreatDoorJ5
import Derived.Deep.RegionHeld3
set_option linter.unusedSimpArgs false
set_option linter.unusedVariables false
namespace Go.Proofs.YtmckbcbdnckngaaGreatDoor
open Go.RowKit

/-- The cells of an answer that is being made. -/
def ansC (t : Int) (a : Ans) (fs bd : Sl) : Array Value := #[.int .i64 t, .int .i64 a.status, .int .i64 a.version, .int .i64 a.variant, .string a.addr, .int .i64 a.lo, .int .i64 a.hi, fs.v, bd.v]
structure AnsAt (w : World) (pa : Nat) (t : Int) (a : Ans) (fs bd : Sl) : Prop where
  blk : Blk w pa 111 (ansC t a fs bd)
  fs : RS (fun i => i = pa) w 2 fs (fldCells a.fs)
  bd : RS (fun i => i = pa) w 1 bd (bytC a.body)
theorem AnsAt.ext {w w' : World} {pa : Nat} {t : Int} {a : Ans} {fs bd : Sl} (h : AnsAt w pa t a fs bd) (hb : Ext w w') : AnsAt w' pa t a fs bd := ⟨h.blk.ext hb, h.fs.ext hb, h.bd.ext hb⟩
theorem AnsAt.bsz {w : World} {pa : Nat} {t : Int} {a : Ans} {fs bd : Sl} (h : AnsAt w pa t a fs bd) : a.body.size = bd.n := by have := h.bd.len1; rw [bytC_len] at this; exact this
section
variable {a : Ans} {r : Rq} {s : St}
theorem part_get (h : (r.method.toList == [71, 69, 84]) = false) : partS a r s = a := by
  unfold partS
  split
  · rw [if_pos (by simp [h])]
  · rfl
theorem part_many (h : (allS r.fs x_rg).length ≠ 1) : partS a r s = a := by
  unfold partS
  split
  · rename_i v hv; rw [hv] at h; simp at h
  · rfl
theorem part_use (h : urF r.method r.fs s = false) : partS a r s = a := by
  unfold partS
  split
  · rw [if_pos (by simp [h])]
  · rfl
variable {v : ByteArray}
theorem part_416 (h1 : (r.method.toList == [71, 69, 84]) = true) (h2 : allS r.fs x_rg = [v]) (h3 : urF r.method r.fs s = true) (h4 : (rgP v a.body.size).1 = 1) :
    partS a r s = { a with status := 416, fs := [(x_cr, ⟨#[98, 121, 116, 101, 115, 32, 42, 47]⟩ ++ decV a.body.size)], body := ⟨#[]⟩ } := by
  unfold partS
  rw [h2]
  simp only
  rw [if_neg (by simp [h1, h3]), if_pos (by rw [h4]; rfl)]
theorem part_none (h1 : (r.method.toList == [71, 69, 84]) = true) (h2 : allS r.fs x_rg = [v]) (h3 : urF r.method r.fs s = true) (h4 : (rgP v a.body.size).1 ≠ 1) (h5 : (rgP v a.body.size).1 ≠ 0 ∨ (rgP v a.body.size).2.length ≠ 1) :
    partS a r s = a := by
  unfold partS
  rw [h2]
  simp only
  rw [if_neg (by simp [h1, h3]), if_neg (by simpa using h4)]
  split
  · rename_i q hq
    rw [hq] at h5
    rcases h5 with h5 | h5 <;> simp at h5
  · rfl
theorem part_bad {q : Int × Int} (h1 : (r.method.toList == [71, 69, 84]) = true) (h2 : allS r.fs x_rg = [v]) (h3 : urF r.method r.fs s = true) (h4 : rgP v a.body.size = (0, [q])) (h5 : crP q a.body.size = none) :
    partS a r s = a := by
  unfold partS
  rw [h2]
  simp only
  rw [if_neg (by simp [h1, h3]), h4, if_neg (by simp)]
  simp only
  rw [h5]
theorem part_206 {q : Int × Int} {text : ByteArray} (h1 : (r.method.toList == [71, 69, 84]) = true) (h2 : allS r.fs x_rg = [v]) (h3 : urF r.method r.fs s = true) (h4 : rgP v a.body.size = (0, [q])) (h5 : crP q a.body.size = some text) :
    partS a r s = { a with status := 206, fs := setS x_cr text a.fs, body := a.body.extract q.1.toNat q.2.toNat, lo := q.1, hi := q.2, ranged := true } := by
  unfold partS
  rw [h2]
  simp only
  rw [if_neg (by simp [h1, h3]), h4, if_neg (by simp)]
  simp only
  rw [h5]
end
theorem crP_in {q : Int × Int} {n : Int} {text : ByteArray} (h : crP q n = some text) : 0 ≤ q.1 ∧ q.1 < q.2 ∧ q.2 ≤ n := by
  unfold crP at h
  split at h
  · cases h
  · rename_i hc
    unfold rgProper at hc
    simp at hc
    omega
theorem AnsAt.put3 {W : World} {pa : Nat} {t : Int} {a : Ans} {fs bd fs' bd' : Sl} {F : List Fd} {B : ByteArray} (h : AnsAt W pa t a fs bd) (hf : RS (fun i => i = pa) W 2 fs' (fldCells F)) (hb : RS (fun i => i = pa) W 1 bd' (bytC B)) (st : Int) :
    AnsAt (((W.setCell ⟨pa, 1, none⟩ (.int .i64 st)).setCell ⟨pa, 7, none⟩ fs'.v).setCell ⟨pa, 8, none⟩ bd'.v) pa t { a with status := st, fs := F, body := B } fs' bd' ∧
    Keeps (fun i => i = pa) W (((W.setCell ⟨pa, 1, none⟩ (.int .i64 st)).setCell ⟨pa, 7, none⟩ fs'.v).setCell ⟨pa, 8, none⟩ bd'.v) := by
  have hK := (((Keeps.refl (fun i => i = pa) W).set_ (b := pa) rfl 1 (.int .i64 st)).set_ (b := pa) rfl 7 fs'.v).set_ (b := pa) rfl 8 bd'.v
  exact ⟨⟨((h.blk.set_ 1 _).set_ 7 _).set_ 8 _, hf.keep hK (fun i hi => .inl hi), hb.keep hK (fun i hi => .inl hi)⟩, hK⟩
theorem AnsAt.put2 {W : World} {pa : Nat} {t : Int} {a : Ans} {fs bd fs' bd' : Sl} {F : List Fd} {B : ByteArray} (h : AnsAt W pa t a fs bd) (hf : RS (fun i => i = pa) W 2 fs' (fldCells F)) (hb : RS (fun i => i = pa) W 1 bd' (bytC B)) :
    AnsAt ((W.setCell ⟨pa, 7, none⟩ fs'.v).setCell ⟨pa, 8, none⟩ bd'.v) pa t { a with fs := F, body := B } fs' bd' ∧
    Keeps (fun i => i = pa) W ((W.setCell ⟨pa, 7, none⟩ fs'.v).setCell ⟨pa, 8, none⟩ bd'.v) := by
  have hK := ((Keeps.refl (fun i => i = pa) W).set_ (b := pa) rfl 7 fs'.v).set_ (b := pa) rfl 8 bd'.v
  exact ⟨⟨(h.blk.set_ 7 _).set_ 8 _, hf.keep hK (fun i hi => .inl hi), hb.keep hK (fun i hi => .inl hi)⟩, hK⟩
theorem AnsAt.putR {W : World} {pa : Nat} {t : Int} {a : Ans} {fs bd : Sl} (h : AnsAt W pa t a fs bd) (st lo hi : Int) :
    AnsAt (((W.setCell ⟨pa, 1, none⟩ (.int .i64 st)).setCell ⟨pa, 5, none⟩ (.int .i64 lo)).setCell ⟨pa, 6, none⟩ (.int .i64 hi)) pa t { a with status := st, lo := lo, hi := hi, ranged := true } fs bd ∧
    Keeps (fun i => i = pa) W (((W.setCell ⟨pa, 1, none⟩ (.int .i64 st)).setCell ⟨pa, 5, none⟩ (.int .i64 lo)).setCell ⟨pa, 6, none⟩ (.int .i64 hi)) := by
  have hK := (((Keeps.refl (fun i => i = pa) W).set_ (b := pa) rfl 1 (.int .i64 st)).set_ (b := pa) rfl 5 (.int .i64 lo)).set_ (b := pa) rfl 6 (.int .i64 hi)
  exact ⟨⟨((h.blk.set_ 1 _).set_ 5 _).set_ 6 _, h.fs.keep hK (fun i hi => .inl hi), h.bd.keep hK (fun i hi => .inl hi)⟩, hK⟩
theorem bytC_cut (b : ByteArray) (i j : Nat) (h1 : i ≤ j) (h2 : j ≤ b.size) : ((bytC b).drop i).take (j - i) = bytC (b.extract i j) := by
  unfold bytC
  rw [← List.map_drop, ← List.map_take]
  congr 1
  rw [← ByteArray.toList_eq, ← ByteArray.toList_eq, Lib.extract_toList, ByteArray.toList_eq]
set_option maxHeartbeats 32000000 in
set_option maxRecDepth 100000 in
theorem or_part (pa : Nat) (t : Int) (a : Ans) (fs bd : Sl) (r : Rq) (rA : Option Addr) (rn rc : Nat) (st : St) (w : World) (h : AnsAt w pa t a fs bd) (hr : RdF w rA rn r.fs)
    (hrn : rn ≤ 1048576) (hrT : sumF r.fs + 2 * rn ≤ 1048576) (hab : a.body.size ≤ 1048576) (hal : a.fs.length ≤ 1073741824) (hafz : Bsz 4611686018427387904 a.fs) (hg : Gl w) (hh : GlH w) (hp : GlP w) :
    Calls Tryz.prog 110 #[.pointer (some ⟨pa, 0, none⟩), .agg #[.string r.method, .string r.target, .slice rA rn rc], .agg (stArr st)] w fun e w' => ∃ b : Bool, e = .returned (.bool b) ∧
      (∃ fs' bd', AnsAt w' pa t (partS a r st) fs' bd') ∧ Keeps (fun i => i = pa) w w' := by
  have hbz := bszF r.fs
  have hbz2 : Bsz 1048576 r.fs := fun f hf => ⟨by have := (hbz f hf).1; omega, by have := (hbz f hf).2; omega⟩
  have HAll := Lib.hid (fun w' (hx : Ext w w') => field_All rA rn rc r.fs x_rg w' (hr.ext hx) (by omega) (by decide) (fun f hf => by have := (hbz f hf).1; omega))
  have HUse := Lib.hid (fun w' (hx : Ext w w') => val_UseRange r.method rA rn rc r.fs st w' (hr.ext hx) (by omega) hbz2 (by omega) hrT (hh.ext hx))
  have Hlen := Lib.hid (fun v (hv : v ∈ allS r.fs x_rg) => show v.size ≤ 1048576 from by
    unfold allS at hv
    obtain ⟨f, hf, rfl⟩ := List.mem_map.1 hv
    exact (hbz2 f (List.mem_filter.1 hf).1).2)
  have HPs := Lib.hid (fun w' v (hx : Ext w w') (hv : v.size ≤ 1048576) => rg_Parse v a.body.size w' hv (by omega) (by omega) (hg.ext hx))
  have HCr := Lib.hid (fun w' lo hi (hx : Ext w w') => rg_ContentRange lo hi a.body.size w' (by omega) (hp.ext hx))
  have HIt := Lib.hid (fun w' (hx : Ext w w') => show Calls Tryz.prog 48 #[.int .i64 (a.body.size : Nat)] w' fun e w'' => e = .returned (.string (decV a.body.size)) ∧ Ext w' w'' from std_Itoa a.body.size (by omega) (by omega) w' (hp.ext hx))
  have Hdz := Lib.hid (decV_size (n := (a.body.size : Int)) (by omega))
  have HSt := Lib.hid (fun w' (tx : ByteArray) => (fun (hk : RdF w' fs.A fs.n a.fs) => field_Set fs.A fs.n fs.c a.fs x_cr tx w' hk (by have := h.fs.rd.lenF; omega) (by decide) hafz))
  have Hget := Lib.hid (@part_get a r st); have Hmany := Lib.hid (@part_many a r st); have Huse := Lib.hid (@part_use a r st); have H416 := Lib.hid (fun v => @part_416 a r st v); have Hnone := Lib.hid (fun v => @part_none a r st v); have Hbad := Lib.hid (fun v q => @part_bad a r st v q); have H206 := Lib.hid (fun v q text => @part_206 a r st v q text)
  have HA := Lib.hid h
  have hbn := h.bsz
  have hplt := h.blk.lt
  rw [hbn] at HPs HCr HIt Hdz H416 Hnone Hbad H206
  obtain ⟨PA, hPA⟩ : ∃ PA, partS a r st = PA := ⟨_, rfl⟩
  rw [hPA] at Hget Hmany Huse H416 Hnone Hbad H206 ⊢
  generalize urF r.method r.fs st = ur at *
  obtain ⟨me, ta, rfs⟩ := r
  obtain ⟨ex, ht, hm, tw, tt, md⟩ := st
  simp only [stArr] at *
  clear hr hbz hbz2 hafz hg hh hp h hPA
  obtain ⟨status, version, variant, addr, afs, body, lo0, hi0, rg0⟩ := a
  obtain ⟨fA, fn, fc⟩ := fs
  obtain ⟨bA, bn, bc⟩ := bd
  simp only [Sl.v] at *
  have HX := Lib.hid ((Blk.new w 42 #[.string me, .string ta, .slice rA rn rc]).alloc (.cells #[.bool ex, .bool ht, .bool hm, .bool tw, .string tt, .int .i64 md] 187))
  have HY := Lib.hid (Blk.new (w.alloc (.cells #[.string me, .string ta, .slice rA rn rc] 42)) 187 #[.bool ex, .bool ht, .bool hm, .bool tw, .string tt, .int .i64 md])
  have HW := Lib.hid (((Ext.refl w).alloc (.cells #[.string me, .string ta, .slice rA rn rc] 42)).alloc (.cells #[.bool ex, .bool ht, .bool hm, .bool tw, .string tt, .int .i64 md] 187))
  have hsz1 : (w.alloc (.cells #[.string me, .string ta, .slice rA rn rc] 42)).heap.size = w.heap.size + 1 := by simp
  rw [hsz1] at HY
  have HS := Lib.hid (fun w' (hx : Ext ((w.alloc (.cells #[.string me, .string ta, .slice rA rn rc] 42)).alloc (.cells #[.bool ex, .bool ht, .bool hm, .bool tw, .string tt, .int .i64 md] 187)) w') => (⟨(HX.out.ext hx).cell 0, (HX.out.ext hx).cell 2, (HY.out.ext hx).cell 0, (HY.out.ext hx).cell 1, (HY.out.ext hx).cell 2, (HY.out.ext hx).cell 3, (HY.out.ext hx).cell 4, (HY.out.ext hx).cell 5⟩ : w'.cell? ⟨w.heap.size, 0, none⟩ = some (.string me) ∧ w'.cell? ⟨w.heap.size, 2, none⟩ = some (.slice rA rn rc) ∧ w'.cell? ⟨w.heap.size + 1, 0, none⟩ = some (.bool ex) ∧ w'.cell? ⟨w.heap.size + 1, 1, none⟩ = some (.bool ht) ∧ w'.cell? ⟨w.heap.size + 1, 2, none⟩ = some (.bool hm) ∧ w'.cell? ⟨w.heap.size + 1, 3, none⟩ = some (.bool tw) ∧ w'.cell? ⟨w.heap.size + 1, 4, none⟩ = some (.string tt) ∧ w'.cell? ⟨w.heap.size + 1, 5, none⟩ = some (.int .i64 md)))
  obtain ⟨x0, x2, -⟩ := HS.out _ (Ext.refl _)
  go_enter Tryz.func110, Tryz.ntmps110
  go_wp2_with fail
  (try rw [hsz1])
  refine (HAll.out _ HW.out).mono ?_; rintro e w1 ⟨lA, ln, lc, rfl, hls, hlc, hb1⟩
  generalize ((w.alloc (.cells #[.string me, .string ta, .slice rA rn rc] 42)).alloc (.cells #[.bool ex, .bool ht, .bool hm, .bool tw, .string tt, .int .i64 md] 187)) = Wb at *
  clear x0 x2 hsz1
  have hE := hb1
  have hll := hls.lenS
  obtain ⟨x0, x2, s0, s1, s2, s3, s4, s5⟩ := HS.out _ hE
  have Hls := Lib.hid hls; have Hll := Lib.hid hll
  clear hls hll
  cases hq : (me.toList == [71, 69, 84])
  · have HP := Lib.hid (Hget.out hq)
    go_wp2_with fail
    go_ret
    have hF := HW.out.trans hE
    exact ⟨false, rfl, ⟨_, _, by rw [HP.out]; exact HA.out.ext hF⟩, Keeps.of hF⟩
  by_cases hl1 : ln = 1
  rotate_left
  · have HP := Lib.hid (Hmany.out (by rw [Hll.out]; exact hl1))
    have hq1 : ((ln : Int) == 1) = false := by rw [beq_eq_false_iff_ne]; omega
    go_wp2_with fail
    go_ret
    have hF := HW.out.trans hE
    exact ⟨false, rfl, ⟨_, _, by rw [HP.out]; exact HA.out.ext hF⟩, Keeps.of hF⟩
  subst hl1
  obtain ⟨v, hv⟩ : ∃ v, allS rfs x_rg = [v] := by
    have := Hll.out
    match hm : allS rfs x_rg, this with
    | [v], _ => exact ⟨v, rfl⟩
  have Hv := Lib.hid hv
  go_wp2_with fail
  refine (HUse.out _ (HW.out.trans hE)).mono ?_; rintro e w2 ⟨rfl, hb2⟩
  clear x0 x2 s0 s1 s2 s3 s4 s5
  replace hE := hE.trans hb2
  cases ur with
  | false =>
    have HP := Lib.hid (Huse.out (by trivial))
    go_wp2_with fail
    go_ret
    have hF := HW.out.trans hE
    exact ⟨false, rfl, ⟨_, _, by rw [HP.out]; exact HA.out.ext hF⟩, Keeps.of hF⟩
  | true =>
  have H416 := Lib.hid (H416.out v hq Hv.out (by trivial)); have Hnone := Lib.hid (Hnone.out v hq Hv.out (by trivial)); have Hbad := Lib.hid (fun q => Hbad.out v q hq Hv.out (by trivial)); have H206 := Lib.hid (fun q text => H206.out v q text hq Hv.out (by trivial))
  have hvz := Hlen.out v (by rw [Hv.out]; simp)
  rw [Hv.out] at Hls
  obtain ⟨lb, lo, hlA, d0⟩ := Hls.out.atS (k := 0) (by simp)
  subst hlA
  rw [Nat.add_zero] at d0
  have HD := Lib.hid (fun w' (hx : Ext w1 w') => (show w'.cell? ⟨lb, lo, none⟩ = some (.string v) from hx.cell d0))
  have HB8 := Lib.hid (fun w' (hx : Ext w w') => (show w'.cell? ⟨pa, 8, none⟩ = some (.slice bA bn bc) from (HA.out.blk.ext hx).cell 8))
  have hL := hb2
  clear d0 hv Hget Hmany Huse
  go_wp2_with fail
  replace hE := hE.drew
  replace hL := hL.drew
  refine wp_region_held_drew (S := (fun w' => w'.cell? ⟨lb, lo, none⟩ = some (.string v) ∧ w'.cell? ⟨pa, 8, none⟩ = some (.slice bA bn bc))) (by kernel_rfl) ?_ (fun hHeld => ?_)
  · (try dsimp only); exact ⟨HD.out _ hL, HB8.out _ (HW.out.trans hE)⟩
  refine wpAnyH_take (i := 0) (oi := { dst := some 32, op := _, type := _, pos := _, after := _, guard := _ }) (v := ?_) rfl (by kernel_rfl) (by kernel_rfl) (by kernel_rfl) (fun _ _ _ h => h) (Or.inl ⟨by rfl, ?_⟩) (by assumption) ?_
  rotate_left
  · (intro w hSw; (try dsimp only at hSw); go_simp; (try with_reducible rfl))
  (try simp only [Act.put, List.setIfInBounds_toArray, List.set_cons_zero, List.set_cons_succ])
  refine wpAnyH_take (i := 1) (oi := { dst := some 33, op := _, type := _, pos := _, after := _, guard := _ }) (v := ?_) rfl (by kernel_rfl) (by kernel_rfl) (by kernel_rfl) (fun _ _ _ h => h) (Or.inl ⟨by rfl, ?_⟩) (by assumption) ?_
  rotate_left
  · (intro w hSw; (try dsimp only at hSw); go_simp; (try with_reducible rfl))
  (try simp only [Act.put, List.setIfInBounds_toArray, List.set_cons_zero, List.set_cons_succ])
  refine wpAnyH_take (i := 2) (oi := { dst := some 34, op := _, type := _, pos := _, after := _, guard := _ }) (v := ?_) rfl (by kernel_rfl) (by kernel_rfl) (by kernel_rfl) (fun _ _ _ h => h) (Or.inl ⟨by rfl, ?_⟩) (by assumption) ?_
  rotate_left
  · (intro w hSw; (try dsimp only at hSw); go_simp; (try with_reducible rfl))
  (try simp only [Act.put, List.setIfInBounds_toArray, List.set_cons_zero, List.set_cons_succ])
  refine wpAnyH_take (i := 3) (oi := { dst := some 35, op := _, type := _, pos := _, after := _, guard := _ }) (v := ?_) rfl (by kernel_rfl) (by kernel_rfl) (by kernel_rfl) (fun _ _ _ h => h) (Or.inl ⟨by rfl, ?_⟩) (by assumption) ?_
  rotate_left
  · (intro w hSw; (try dsimp only at hSw); go_simp; (try with_reducible rfl))
  (try simp only [Act.put, List.setIfInBounds_toArray, List.set_cons_zero, List.set_cons_succ])
  refine wpAnyH_take (i := 4) (oi := { dst := some 36, op := _, type := _, pos := _, after := _, guard := _ }) (v := ?_) rfl (by kernel_rfl) (by kernel_rfl) (by kernel_rfl) (fun _ _ _ h => h) (Or.inl ⟨by rfl, ?_⟩) (by assumption) ?_
  rotate_left
  · (intro w hSw; (try dsimp only at hSw); go_simp; (try with_reducible rfl))
  (try simp only [Act.put, List.setIfInBounds_toArray, List.set_cons_zero, List.set_cons_succ])
  refine wpAnyH_take (i := 5) (oi := { dst := some 37, op := _, type := _, pos := _, after := _, guard := _ }) (v := ?_) rfl (by kernel_rfl) (by kernel_rfl) (by kernel_rfl) (fun _ _ _ h => h) (Or.inl ⟨by rfl, ?_⟩) (by assumption) ?_
  rotate_left
  · (intro w hSw; (try dsimp only at hSw); go_simp; (try with_reducible rfl))
  (try simp only [Act.put, List.setIfInBounds_toArray, List.set_cons_zero, List.set_cons_succ])
  refine wpAnyH_take (i := 6) (oi := { dst := some 38, op := _, type := _, pos := _, after := _, guard := _ }) (v := ?_) rfl (by kernel_rfl) (by kernel_rfl) (by kernel_rfl) (fun _ _ _ h => h) (Or.inl ⟨by rfl, ?_⟩) (by assumption) ?_
  rotate_left
  · (intro w hSw; (try dsimp only at hSw); go_simp; (try with_reducible rfl))
  (try simp only [Act.put, List.setIfInBounds_toArray, List.set_cons_zero, List.set_cons_succ])
  refine wpAnyH_take (i := 7) (oi := { dst := some 39, op := _, type := _, pos := _, after := _, guard := _ }) (v := ?_) rfl (by kernel_rfl) (by kernel_rfl) (by kernel_rfl) (fun _ _ _ h => h) (Or.inl ⟨by rfl, ?_⟩) (by assumption) ?_
  rotate_left
  · (intro w hSw; (try dsimp only at hSw); go_simp; (try with_reducible rfl))
  (try simp only [Act.put, List.setIfInBounds_toArray, List.set_cons_zero, List.set_cons_succ])
  refine wpAnyH_ready (rs := [8]) (by kernel_rfl) (by simp) ?_
  refine AllReadyH.cons (o := { dst := some 40, op := _, type := _, pos := _, after := _, guard := _ }) rfl (fun K hK => ?_) AllReadyH.nil
  go_simp
  have HE4c := Lib.hid hE; refine (HPs.out _ v (HW.out.trans hE) hvz).mono ?_; rintro e w4 ⟨⟨qA, qn, qc⟩, rfl, hr, hb4⟩; replace hE := hE.trans hb4; replace hL := hL.trans hb4; clear hb4; (simp only [Sl.v])
  try go_wp2_with fail
  refine hK.out _ _ ?_ (fun hHeld => ?_)
  · (try dsimp only); exact ⟨HD.out _ hL, HB8.out _ (HW.out.trans hE)⟩
  clear hK K
  (try simp only [Act.put, List.setIfInBounds_toArray, List.set_cons_zero, List.set_cons_succ])
  refine wpAnyH_take (i := 9) (oi := { dst := some 31, op := _, type := _, pos := _, after := _, guard := _ }) (v := ?_) rfl (by kernel_rfl) (by kernel_rfl) (by kernel_rfl) (fun _ _ _ h => h) (Or.inl ⟨by rfl, ?_⟩) (by assumption) ?_
  rotate_left
  · (intro w hSw; (try dsimp only at hSw); go_simp; (try with_reducible rfl))
  (try simp only [Act.put, List.setIfInBounds_toArray, List.set_cons_zero, List.set_cons_succ])
  refine wpAnyH_take (i := 10) (oi := { dst := some 41, op := _, type := _, pos := _, after := _, guard := _ }) (v := ?_) rfl (by kernel_rfl) (by kernel_rfl) (by kernel_rfl) (fun _ _ _ h => h) (Or.inl ⟨by rfl, ?_⟩) (by assumption) ?_
  rotate_left
  · (intro w hSw; (try dsimp only at hSw); go_simp; (try with_reducible rfl))
  (try simp only [Act.put, List.setIfInBounds_toArray, List.set_cons_zero, List.set_cons_succ])
  refine wpAnyH_take (i := 11) (oi := { dst := some 42, op := _, type := _, pos := _, after := _, guard := _ }) (v := ?_) rfl (by kernel_rfl) (by kernel_rfl) (by kernel_rfl) (fun _ _ _ h => h) (Or.inl ⟨by rfl, ?_⟩) (by assumption) ?_
  rotate_left
  · (intro w hSw; (try dsimp only at hSw); go_simp; (try with_reducible rfl))
  (try simp only [Act.put, List.setIfInBounds_toArray, List.set_cons_zero, List.set_cons_succ])
  refine wpAnyH_take (i := 12) (oi := { dst := some 8, op := _, type := _, pos := _, after := _, guard := _ }) (v := ?_) rfl (by kernel_rfl) (by kernel_rfl) (by kernel_rfl) (fun _ _ _ h => h) (Or.inl ⟨by rfl, ?_⟩) (by assumption) ?_
  rotate_left
  · (intro w hSw; (try dsimp only at hSw); go_simp; (try with_reducible rfl))
  (try simp only [Act.put, List.setIfInBounds_toArray, List.set_cons_zero, List.set_cons_succ])
  refine wpAnyH_take (i := 13) (oi := { dst := some 9, op := _, type := _, pos := _, after := _, guard := _ }) (v := ?_) rfl (by kernel_rfl) (by kernel_rfl) (by kernel_rfl) (fun _ _ _ h => h) (Or.inl ⟨by rfl, ?_⟩) (by assumption) ?_
  rotate_left
  · (intro w hSw; (try dsimp only at hSw); go_simp; (try with_reducible rfl))
  (try simp only [Act.put, List.setIfInBounds_toArray, List.set_cons_zero, List.set_cons_succ])
  refine wpAnyH_done (by kernel_rfl) ?_ _
  have Hr := Lib.hid hr; have HE4 := Lib.hid hE
  clear hr
  generalize rgP v bn = RGv at *
  obtain ⟨en, el⟩ := RGv
  simp only at H416 Hnone Hbad H206
  have HIs := Lib.hid (fun w' => errs_IsN en 1 (by decide) w')
  go_wp2_with fail
  refine (HIs.out _).mono ?_; rintro e w5 ⟨rfl, rfl⟩
  have hF := HW.out.trans hE
  have hplt2 : pa < w5.heap.size := Nat.lt_of_lt_of_le hplt hF.size
  have p8 := HB8.out _ hF
  by_cases h1 : en = 1
  · have HP := Lib.hid (H416.out h1)
    rw [decide_eq_true h1]
    have hdz := Hdz.out
    have q1 := sum_w (P := Tryz.prog) ⟨#[98, 121, 116, 101, 115, 32, 42, 47]⟩ (decV bn) (by rw [show (⟨#[98, 121, 116, 101, 115, 32, 42, 47]⟩ : ByteArray).size = 8 from rfl]; omega)
    go_wp2_with fail
    refine (HIt.out _ hF).mono ?_; rintro e w6 ⟨rfl, hb6⟩
    replace hF := hF.trans hb6
    have hplt3 : pa < w6.heap.size := Nat.lt_of_lt_of_le hplt2 hb6.size
    generalize decV bn = dv at *
    have HA6 := Lib.hid ((HA.out.ext hF).ext ((Ext.refl w6).alloc (.cells #[.string ⟨#[99, 111, 110, 116, 101, 110, 116, 45, 114, 97, 110, 103, 101]⟩, .string (⟨#[98, 121, 116, 101, 115, 32, 42, 47]⟩ ++ dv)] 51)))
    have RF := Lib.hid (show RS (fun i => i = pa) (w6.alloc (.cells #[.string ⟨#[99, 111, 110, 116, 101, 110, 116, 45, 114, 97, 110, 103, 101]⟩, .string (⟨#[98, 121, 116, 101, 115, 32, 42, 47]⟩ ++ dv)] 51)) 2 ⟨some ⟨w6.heap.size, 0, none⟩, 1, 1⟩ (fldCells [(x_cr, ⟨#[98, 121, 116, 101, 115, 32, 42, 47]⟩ ++ dv)]) from ⟨Rd.lit w6 #[.string ⟨#[99, 111, 110, 116, 101, 110, 116, 45, 114, 97, 110, 103, 101]⟩, .string (⟨#[98, 121, 116, 101, 115, 32, 42, 47]⟩ ++ dv)] 51 rfl 2 1 rfl, fun _ a ha hb => by simp only [Option.some.injEq] at ha; subst ha; simp only at hb; omega, Nat.le_refl _⟩)
    have HZ := HA6.out.put3 RF.out (show RS _ _ 1 sl0 (bytC ⟨#[]⟩) from RS.nil _ _ _) 416
    simp only [Sl.v, sl0] at HZ
    have hz9 : ∀ (i : Nat) (u : Value), pa < (w6.setCell ⟨pa, i, none⟩ u).heap.size := fun i u => by simpa [World.setCell] using hplt3
    have hz8 : ∀ (i j : Nat) (u v : Value), pa < ((w6.setCell ⟨pa, i, none⟩ u).setCell ⟨pa, j, none⟩ v).heap.size := fun i j u v => by simpa [World.setCell] using hplt3
    rw [World.setCell_alloc_past _ _ _ _ hplt3, World.setCell_alloc_past _ _ _ _ (hz9 _ _), World.setCell_alloc_past _ _ _ _ (hz8 _ _ _ _)] at HZ
    clear hz9 hz8
    have HZ := Lib.hid HZ
    have hF6 := Lib.hid (hF.alloc (.cells #[.string ⟨#[99, 111, 110, 116, 101, 110, 116, 45, 114, 97, 110, 103, 101]⟩, .string (⟨#[98, 121, 116, 101, 115, 32, 42, 47]⟩ ++ dv)] 51))
    have HA6b := HA.out.ext hF
    have k1 : w6.cell? ⟨pa, 1, none⟩ = some (.int .i64 status) := HA6b.blk.cell 1
    have k7 : w6.cell? ⟨pa, 7, none⟩ = some (.slice fA fn fc) := HA6b.blk.cell 7
    have k8 : w6.cell? ⟨pa, 8, none⟩ = some (.slice bA bn bc) := HA6b.blk.cell 8
    have f1 : w6.frozen? ⟨pa, 1, none⟩ = false := HA6b.blk.frozen 1
    have f7 : w6.frozen? ⟨pa, 7, none⟩ = false := HA6b.blk.frozen 7
    have f8 : w6.frozen? ⟨pa, 8, none⟩ = false := HA6b.blk.frozen 8
    clear HA6b
    clear p8
    go_wp2_with fail
    go_ret
    exact ⟨true, rfl, ⟨_, _, by rw [HP.out]; exact HZ.out.1⟩, (Keeps.of hF6.out).trans HZ.out.2⟩
  · rw [decide_eq_false h1]
    have BADEND : ∀ w9, Ext w w9 → PA = ⟨status, version, variant, addr, afs, body, lo0, hi0, rg0⟩ → (∃ fs' bd', AnsAt w9 pa t PA fs' bd') ∧ Keeps (fun i => i = pa) w w9 := fun w9 h9 e9 => ⟨⟨_, _, by rw [e9]; exact HA.out.ext h9⟩, Keeps.of h9⟩
    have BE := Lib.hid BADEND
    clear BADEND
    rcases errV_eq0 en with ⟨h0, h2⟩ | ⟨h0, h2⟩
    rotate_left
    · have HP := Lib.hid (Hnone.out h1 (.inl h0))
      rw [h2]
      go_wp2_with fail
      go_ret
      obtain ⟨z1, z2⟩ := BE.out _ hF HP.out
      exact ⟨false, rfl, z1, z2⟩
    · rw [h2]
      subst h0
      have hel : el.length = qn := by have := Hr.out.rd.1; rw [spnC_len] at this; simp only at this; omega
      by_cases hq1 : qn = 1
      rotate_left
      · have HP := Lib.hid (Hnone.out h1 (.inr (by rw [hel]; exact hq1)))
        have hq2 : ((qn : Int) == 1) = false := by rw [beq_eq_false_iff_ne]; omega
        go_wp2_with fail
        go_ret
        obtain ⟨z1, z2⟩ := BE.out _ hF HP.out
        exact ⟨false, rfl, z1, z2⟩
      · subst hq1
        obtain ⟨q, rfl⟩ : ∃ q, el = [q] := by
          match el, hel with
          | [q], _ => exact ⟨q, rfl⟩
        obtain ⟨lo, hi⟩ := q
        have Hbad := Lib.hid (Hbad.out (lo, hi) (by trivial)); have H206 := Lib.hid (fun text => H206.out (lo, hi) text (by trivial))
        obtain ⟨qb, qo, hqA, hqc⟩ := Hr.out.rd.2 (by simp [spnC])
        simp only at hqA
        subst hqA
        have hqb : pa ≠ qb := by
          have h9 := Hr.out.out (by simp [spnC]) ⟨qb, qo, none⟩ rfl
          have h8 := (HW.out.trans HE4c.out).size
          simp only at h9
          omega
        have d0 : w5.cell? ⟨qb, qo, none⟩ = some (.int .i64 lo) := hqc 0 _ rfl
        have d1 : w5.cell? ⟨qb, qo + 1, none⟩ = some (.int .i64 hi) := hqc 1 _ rfl
        have HD := Lib.hid (fun w' (hx : Ext w5 w') => (⟨hx.cell d0, hx.cell d1⟩ : w'.cell? ⟨qb, qo, none⟩ = some (.int .i64 lo) ∧ w'.cell? ⟨qb, qo + 1, none⟩ = some (.int .i64 hi)))
        clear hqc hel
        have HF5 := Lib.hid hF
        go_wp2_with fail
        clear d0 d1 p8
        have hL := (Ext.refl w5).drew
        have HCr := Lib.hid (fun w' hx => HCr.out w' lo hi hx)
        cases hcr : crP (lo, hi) bn with
        | none =>
          have HP := Lib.hid (Hbad.out hcr)
          rw [hcr, show crV none = .tuple #[.string ⟨#[]⟩, .iface 63 (.int .i64 2)] from rfl] at HCr
          refine wp_region_held_drew (S := (fun w' => w'.cell? ⟨qb, qo, none⟩ = some (.int .i64 lo) ∧ w'.cell? ⟨qb, qo + 1, none⟩ = some (.int .i64 hi) ∧ w'.cell? ⟨pa, 8, none⟩ = some (.slice bA bn bc))) (by kernel_rfl) ?_ (fun hHeld => ?_)
          · (try dsimp only); exact ⟨(HD.out _ hL).1, (HD.out _ hL).2, HB8.out _ (HF5.out.trans hL)⟩
          refine wpAnyH_take (i := 0) (oi := { dst := some 73, op := _, type := _, pos := _, after := _, guard := _ }) (v := ?_) rfl (by kernel_rfl) (by kernel_rfl) (by kernel_rfl) (fun _ _ _ h => h) (Or.inl ⟨by rfl, ?_⟩) (by assumption) ?_
          rotate_left
          · (intro w hSw; (try dsimp only at hSw); go_simp; (try with_reducible rfl))
          (try simp only [Act.put, List.setIfInBounds_toArray, List.set_cons_zero, List.set_cons_succ])
          refine wpAnyH_take (i := 1) (oi := { dst := some 74, op := _, type := _, pos := _, after := _, guard := _ }) (v := ?_) rfl (by kernel_rfl) (by kernel_rfl) (by kernel_rfl) (fun _ _ _ h => h) (Or.inl ⟨by rfl, ?_⟩) (by assumption) ?_
          rotate_left
          · (intro w hSw; (try dsimp only at hSw); go_simp; (try with_reducible rfl))
          (try simp only [Act.put, List.setIfInBounds_toArray, List.set_cons_zero, List.set_cons_succ])
          refine wpAnyH_take (i := 2) (oi := { dst := some 75, op := _, type := _, pos := _, after := _, guard := _ }) (v := ?_) rfl (by kernel_rfl) (by kernel_rfl) (by kernel_rfl) (fun _ _ _ h => h) (Or.inl ⟨by rfl, ?_⟩) (by assumption) ?_
          rotate_left
          · (intro w hSw; (try dsimp only at hSw); go_simp; (try with_reducible rfl))
          (try simp only [Act.put, List.setIfInBounds_toArray, List.set_cons_zero, List.set_cons_succ])
          refine wpAnyH_take (i := 3) (oi := { dst := some 76, op := _, type := _, pos := _, after := _, guard := _ }) (v := ?_) rfl (by kernel_rfl) (by kernel_rfl) (by kernel_rfl) (fun _ _ _ h => h) (Or.inl ⟨by rfl, ?_⟩) (by assumption) ?_
          rotate_left
          · (intro w hSw; (try dsimp only at hSw); go_simp; (try with_reducible rfl))
          (try simp only [Act.put, List.setIfInBounds_toArray, List.set_cons_zero, List.set_cons_succ])
          refine wpAnyH_take (i := 4) (oi := { dst := some 77, op := _, type := _, pos := _, after := _, guard := _ }) (v := ?_) rfl (by kernel_rfl) (by kernel_rfl) (by kernel_rfl) (fun _ _ _ h => h) (Or.inl ⟨by rfl, ?_⟩) (by assumption) ?_
          rotate_left
          · (intro w hSw; (try dsimp only at hSw); go_simp; (try with_reducible rfl))
          (try simp only [Act.put, List.setIfInBounds_toArray, List.set_cons_zero, List.set_cons_succ])
          refine wpAnyH_take (i := 5) (oi := { dst := some 78, op := _, type := _, pos := _, after := _, guard := _ }) (v := ?_) rfl (by kernel_rfl) (by kernel_rfl) (by kernel_rfl) (fun _ _ _ h => h) (Or.inl ⟨by rfl, ?_⟩) (by assumption) ?_
          rotate_left
          · (intro w hSw; (try dsimp only at hSw); go_simp; (try with_reducible rfl))
          (try simp only [Act.put, List.setIfInBounds_toArray, List.set_cons_zero, List.set_cons_succ])
          refine wpAnyH_take (i := 6) (oi := { dst := some 79, op := _, type := _, pos := _, after := _, guard := _ }) (v := ?_) rfl (by kernel_rfl) (by kernel_rfl) (by kernel_rfl) (fun _ _ _ h => h) (Or.inl ⟨by rfl, ?_⟩) (by assumption) ?_
          rotate_left
          · (intro w hSw; (try dsimp only at hSw); go_simp; (try with_reducible rfl))
          (try simp only [Act.put, List.setIfInBounds_toArray, List.set_cons_zero, List.set_cons_succ])
          refine wpAnyH_take (i := 7) (oi := { dst := some 80, op := _, type := _, pos := _, after := _, guard := _ }) (v := ?_) rfl (by kernel_rfl) (by kernel_rfl) (by kernel_rfl) (fun _ _ _ h => h) (Or.inl ⟨by rfl, ?_⟩) (by assumption) ?_
          rotate_left
          · (intro w hSw; (try dsimp only at hSw); go_simp; (try with_reducible rfl))
          (try simp only [Act.put, List.setIfInBounds_toArray, List.set_cons_zero, List.set_cons_succ])
          refine wpAnyH_ready (rs := [8]) (by kernel_rfl) (by simp) ?_
          refine AllReadyH.cons (o := { dst := some 81, op := _, type := _, pos := _, after := _, guard := _ }) rfl (fun K hK => ?_) AllReadyH.nil
          go_simp
          refine (HCr.out _ (HF5.out.trans hL)).mono ?_; rintro e w7 ⟨rfl, hb7⟩; replace hL := hL.trans hb7; clear hb7
          try go_wp2_with fail
          refine hK.out _ _ ?_ (fun hHeld => ?_)
          · (try dsimp only); exact ⟨(HD.out _ hL).1, (HD.out _ hL).2, HB8.out _ (HF5.out.trans hL)⟩
          clear hK K
          (try simp only [Act.put, List.setIfInBounds_toArray, List.set_cons_zero, List.set_cons_succ])
          refine wpAnyH_take (i := 9) (oi := { dst := some 72, op := _, type := _, pos := _, after := _, guard := _ }) (v := ?_) rfl (by kernel_rfl) (by kernel_rfl) (by kernel_rfl) (fun _ _ _ h => h) (Or.inl ⟨by rfl, ?_⟩) (by assumption) ?_
          rotate_left
          · (intro w hSw; (try dsimp only at hSw); go_simp; (try with_reducible rfl))
          (try simp only [Act.put, List.setIfInBounds_toArray, List.set_cons_zero, List.set_cons_succ])
          refine wpAnyH_take (i := 10) (oi := { dst := some 82, op := _, type := _, pos := _, after := _, guard := _ }) (v := ?_) rfl (by kernel_rfl) (by kernel_rfl) (by kernel_rfl) (fun _ _ _ h => h) (Or.inl ⟨by rfl, ?_⟩) (by assumption) ?_
          rotate_left
          · (intro w hSw; (try dsimp only at hSw); go_simp; (try with_reducible rfl))
          (try simp only [Act.put, List.setIfInBounds_toArray, List.set_cons_zero, List.set_cons_succ])
          refine wpAnyH_take (i := 11) (oi := { dst := some 83, op := _, type := _, pos := _, after := _, guard := _ }) (v := ?_) rfl (by kernel_rfl) (by kernel_rfl) (by kernel_rfl) (fun _ _ _ h => h) (Or.inl ⟨by rfl, ?_⟩) (by assumption) ?_
          rotate_left
          · (intro w hSw; (try dsimp only at hSw); go_simp; (try with_reducible rfl))
          (try simp only [Act.put, List.setIfInBounds_toArray, List.set_cons_zero, List.set_cons_succ])
          refine wpAnyH_take (i := 12) (oi := { dst := some 10, op := _, type := _, pos := _, after := _, guard := _ }) (v := ?_) rfl (by kernel_rfl) (by kernel_rfl) (by kernel_rfl) (fun _ _ _ h => h) (Or.inl ⟨by rfl, ?_⟩) (by assumption) ?_
          rotate_left
          · (intro w hSw; (try dsimp only at hSw); go_simp; (try with_reducible rfl))
          (try simp only [Act.put, List.setIfInBounds_toArray, List.set_cons_zero, List.set_cons_succ])
          refine wpAnyH_take (i := 13) (oi := { dst := some 9, op := _, type := _, pos := _, after := _, guard := _ }) (v := ?_) rfl (by kernel_rfl) (by kernel_rfl) (by kernel_rfl) (fun _ _ _ h => h) (Or.inl ⟨by rfl, ?_⟩) (by assumption) ?_
          rotate_left
          · (intro w hSw; (try dsimp only at hSw); go_simp; (try with_reducible rfl))
          (try simp only [Act.put, List.setIfInBounds_toArray, List.set_cons_zero, List.set_cons_succ])
          refine wpAnyH_done (by kernel_rfl) ?_ _
          go_wp2_with fail
          go_ret
          obtain ⟨z1, z2⟩ := BE.out _ (HF5.out.trans hL) HP.out
          exact ⟨false, rfl, z1, z2⟩
        | some text =>
          have HP := Lib.hid (H206.out text hcr)
          have hin := crP_in hcr
          rw [hcr, show crV (some text) = .tuple #[.string text, .nilIface] from rfl] at HCr
          refine wp_region_held_drew (S := (fun w' => w'.cell? ⟨qb, qo, none⟩ = some (.int .i64 lo) ∧ w'.cell? ⟨qb, qo + 1, none⟩ = some (.int .i64 hi) ∧ w'.cell? ⟨pa, 8, none⟩ = some (.slice bA bn bc))) (by kernel_rfl) ?_ (fun hHeld => ?_)
          · (try dsimp only); exact ⟨(HD.out _ hL).1, (HD.out _ hL).2, HB8.out _ (HF5.out.trans hL)⟩
          refine wpAnyH_take (i := 0) (oi := { dst := some 73, op := _, type := _, pos := _, after := _, guard := _ }) (v := ?_) rfl (by kernel_rfl) (by kernel_rfl) (by kernel_rfl) (fun _ _ _ h => h) (Or.inl ⟨by rfl, ?_⟩) (by assumption) ?_
          rotate_left
          · (intro w hSw; (try dsimp only at hSw); go_simp; (try with_reducible rfl))
          (try simp only [Act.put, List.setIfInBounds_toArray, List.set_cons_zero, List.set_cons_succ])
          refine wpAnyH_take (i := 1) (oi := { dst := some 74, op := _, type := _, pos := _, after := _, guard := _ }) (v := ?_) rfl (by kernel_rfl) (by kernel_rfl) (by kernel_rfl) (fun _ _ _ h => h) (Or.inl ⟨by rfl, ?_⟩) (by assumption) ?_
          rotate_left
          · (intro w hSw; (try dsimp only at hSw); go_simp; (try with_reducible rfl))
          (try simp only [Act.put, List.setIfInBounds_toArray, List.set_cons_zero, List.set_cons_succ])
          refine wpAnyH_take (i := 2) (oi := { dst := some 75, op := _, type := _, pos := _, after := _, guard := _ }) (v := ?_) rfl (by kernel_rfl) (by kernel_rfl) (by kernel_rfl) (fun _ _ _ h => h) (Or.inl ⟨by rfl, ?_⟩) (by assumption) ?_
          rotate_left
          · (intro w hSw; (try dsimp only at hSw); go_simp; (try with_reducible rfl))
          (try simp only [Act.put, List.setIfInBounds_toArray, List.set_cons_zero, List.set_cons_succ])
          refine wpAnyH_take (i := 3) (oi := { dst := some 76, op := _, type := _, pos := _, after := _, guard := _ }) (v := ?_) rfl (by kernel_rfl) (by kernel_rfl) (by kernel_rfl) (fun _ _ _ h => h) (Or.inl ⟨by rfl, ?_⟩) (by assumption) ?_
          rotate_left
          · (intro w hSw; (try dsimp only at hSw); go_simp; (try with_reducible rfl))
          (try simp only [Act.put, List.setIfInBounds_toArray, List.set_cons_zero, List.set_cons_succ])
          refine wpAnyH_take (i := 4) (oi := { dst := some 77, op := _, type := _, pos := _, after := _, guard := _ }) (v := ?_) rfl (by kernel_rfl) (by kernel_rfl) (by kernel_rfl) (fun _ _ _ h => h) (Or.inl ⟨by rfl, ?_⟩) (by assumption) ?_
          rotate_left
          · (intro w hSw; (try dsimp only at hSw); go_simp; (try with_reducible rfl))
          (try simp only [Act.put, List.setIfInBounds_toArray, List.set_cons_zero, List.set_cons_succ])
          refine wpAnyH_take (i := 5) (oi := { dst := some 78, op := _, type := _, pos := _, after := _, guard := _ }) (v := ?_) rfl (by kernel_rfl) (by kernel_rfl) (by kernel_rfl) (fun _ _ _ h => h) (Or.inl ⟨by rfl, ?_⟩) (by assumption) ?_
          rotate_left
          · (intro w hSw; (try dsimp only at hSw); go_simp; (try with_reducible rfl))
          (try simp only [Act.put, List.setIfInBounds_toArray, List.set_cons_zero, List.set_cons_succ])
          refine wpAnyH_take (i := 6) (oi := { dst := some 79, op := _, type := _, pos := _, after := _, guard := _ }) (v := ?_) rfl (by kernel_rfl) (by kernel_rfl) (by kernel_rfl) (fun _ _ _ h => h) (Or.inl ⟨by rfl, ?_⟩) (by assumption) ?_
          rotate_left
          · (intro w hSw; (try dsimp only at hSw); go_simp; (try with_reducible rfl))
          (try simp only [Act.put, List.setIfInBounds_toArray, List.set_cons_zero, List.set_cons_succ])
          refine wpAnyH_take (i := 7) (oi := { dst := some 80, op := _, type := _, pos := _, after := _, guard := _ }) (v := ?_) rfl (by kernel_rfl) (by kernel_rfl) (by kernel_rfl) (fun _ _ _ h => h) (Or.inl ⟨by rfl, ?_⟩) (by assumption) ?_
          rotate_left
          · (intro w hSw; (try dsimp only at hSw); go_simp; (try with_reducible rfl))
          (try simp only [Act.put, List.setIfInBounds_toArray, List.set_cons_zero, List.set_cons_succ])
          refine wpAnyH_ready (rs := [8]) (by kernel_rfl) (by simp) ?_
          refine AllReadyH.cons (o := { dst := some 81, op := _, type := _, pos := _, after := _, guard := _ }) rfl (fun K hK => ?_) AllReadyH.nil
          go_simp
          refine (HCr.out _ (HF5.out.trans hL)).mono ?_; rintro e w7 ⟨rfl, hb7⟩; replace hL := hL.trans hb7; clear hb7
          try go_wp2_with fail
          refine hK.out _ _ ?_ (fun hHeld => ?_)
          · (try dsimp only); exact ⟨(HD.out _ hL).1, (HD.out _ hL).2, HB8.out _ (HF5.out.trans hL)⟩
          clear hK K
          (try simp only [Act.put, List.setIfInBounds_toArray, List.set_cons_zero, List.set_cons_succ])
          refine wpAnyH_take (i := 9) (oi := { dst := some 72, op := _, type := _, pos := _, after := _, guard := _ }) (v := ?_) rfl (by kernel_rfl) (by kernel_rfl) (by kernel_rfl) (fun _ _ _ h => h) (Or.inl ⟨by rfl, ?_⟩) (by assumption) ?_
          rotate_left
          · (intro w hSw; (try dsimp only at hSw); go_simp; (try with_reducible rfl))
          (try simp only [Act.put, List.setIfInBounds_toArray, List.set_cons_zero, List.set_cons_succ])
          refine wpAnyH_take (i := 10) (oi := { dst := some 82, op := _, type := _, pos := _, after := _, guard := _ }) (v := ?_) rfl (by kernel_rfl) (by kernel_rfl) (by kernel_rfl) (fun _ _ _ h => h) (Or.inl ⟨by rfl, ?_⟩) (by assumption) ?_
          rotate_left
          · (intro w hSw; (try dsimp only at hSw); go_simp; (try with_reducible rfl))
          (try simp only [Act.put, List.setIfInBounds_toArray, List.set_cons_zero, List.set_cons_succ])
          refine wpAnyH_take (i := 11) (oi := { dst := some 83, op := _, type := _, pos := _, after := _, guard := _ }) (v := ?_) rfl (by kernel_rfl) (by kernel_rfl) (by kernel_rfl) (fun _ _ _ h => h) (Or.inl ⟨by rfl, ?_⟩) (by assumption) ?_
          rotate_left
          · (intro w hSw; (try dsimp only at hSw); go_simp; (try with_reducible rfl))
          (try simp only [Act.put, List.setIfInBounds_toArray, List.set_cons_zero, List.set_cons_succ])
          refine wpAnyH_take (i := 12) (oi := { dst := some 10, op := _, type := _, pos := _, after := _, guard := _ }) (v := ?_) rfl (by kernel_rfl) (by kernel_rfl) (by kernel_rfl) (fun _ _ _ h => h) (Or.inl ⟨by rfl, ?_⟩) (by assumption) ?_
          rotate_left
          · (intro w hSw; (try dsimp only at hSw); go_simp; (try with_reducible rfl))
          (try simp only [Act.put, List.setIfInBounds_toArray, List.set_cons_zero, List.set_cons_succ])
          refine wpAnyH_take (i := 13) (oi := { dst := some 9, op := _, type := _, pos := _, after := _, guard := _ }) (v := ?_) rfl (by kernel_rfl) (by kernel_rfl) (by kernel_rfl) (fun _ _ _ h => h) (Or.inl ⟨by rfl, ?_⟩) (by assumption) ?_
          rotate_left
          · (intro w hSw; (try dsimp only at hSw); go_simp; (try with_reducible rfl))
          (try simp only [Act.put, List.setIfInBounds_toArray, List.set_cons_zero, List.set_cons_succ])
          refine wpAnyH_done (by kernel_rfl) ?_ _
          have hF7 := HF5.out.trans hL
          obtain ⟨d0, d1⟩ := HD.out _ hL
          have HA7 := Lib.hid (HA.out.ext hF7)
          have HZ := HA7.out.putR 206 lo hi
          have HZ := Lib.hid HZ
          have k1 : w7.cell? ⟨pa, 1, none⟩ = some (.int .i64 status) := HA7.out.blk.cell 1
          have k5 : w7.cell? ⟨pa, 5, none⟩ = some (.int .i64 lo0) := HA7.out.blk.cell 5
          have k6 : w7.cell? ⟨pa, 6, none⟩ = some (.int .i64 hi0) := HA7.out.blk.cell 6
          have f1 : w7.frozen? ⟨pa, 1, none⟩ = false := HA7.out.blk.frozen 1
          have f5 : w7.frozen? ⟨pa, 5, none⟩ = false := HA7.out.blk.frozen 5
          have f6 : w7.frozen? ⟨pa, 6, none⟩ = false := HA7.out.blk.frozen 6
          go_upto_region 14 with fail
          have HW13 := Lib.hid ((Keeps.of hF7).trans HZ.out.2)
          have HZ1 := Lib.hid HZ.out.1
          have HD13 := Lib.hid (⟨far_cell (far_cell (far_cell d0 hqb) hqb) hqb, far_cell (far_cell (far_cell d1 hqb) hqb) hqb⟩ : (((w7.setCell ⟨pa, 1, none⟩ (.int .i64 206)).setCell ⟨pa, 5, none⟩ (.int .i64 lo)).setCell ⟨pa, 6, none⟩ (.int .i64 hi)).cell? ⟨qb, qo, none⟩ = some (.int .i64 lo) ∧ (((w7.setCell ⟨pa, 1, none⟩ (.int .i64 206)).setCell ⟨pa, 5, none⟩ (.int .i64 lo)).setCell ⟨pa, 6, none⟩ (.int .i64 hi)).cell? ⟨qb, qo + 1, none⟩ = some (.int .i64 hi))
          clear k1 k5 k6 f1 f5 f6 d0 d1 HZ HA7
          generalize (((w7.setCell ⟨pa, 1, none⟩ (.int .i64 206)).setCell ⟨pa, 5, none⟩ (.int .i64 lo)).setCell ⟨pa, 6, none⟩ (.int .i64 hi)) = W13 at *
          have hpW : pa < W13.heap.size := Nat.lt_of_lt_of_le hplt HW13.out.size
          have HSt := Lib.hid (fun w' (hx : Ext W13 w') => HSt.out w' text (HZ1.out.ext hx).fs.rd)
          have hL := (Ext.refl W13).drew
          have HS14 := Lib.hid (fun w' (hx : Ext W13 w') => (⟨(HZ1.out.blk.ext hx).cell 7, (HZ1.out.blk.ext hx).cell 8, hx.cell HD13.out.1, hx.cell HD13.out.2⟩ : w'.cell? ⟨pa, 7, none⟩ = some (.slice fA fn fc) ∧ w'.cell? ⟨pa, 8, none⟩ = some (.slice bA bn bc) ∧ w'.cell? ⟨qb, qo, none⟩ = some (.int .i64 lo) ∧ w'.cell? ⟨qb, qo + 1, none⟩ = some (.int .i64 hi)))
          obtain ⟨i, hi0⟩ : ∃ i : Nat, lo = i := ⟨lo.toNat, by omega⟩
          obtain ⟨j, hj0⟩ : ∃ j : Nat, hi = j := ⟨hi.toNat, by omega⟩
          subst hi0; subst hj0
          have hbc := HZ1.out.bd.cap
          simp only at hbc
          have hij : i ≤ j := by omega
          have hjb : j ≤ bn := by omega
          have g1 : (0 : Int) ≤ (i : Int) := by omega
          have g2 : (i : Int) ≤ (j : Int) := by omega
          have g3 : (j : Int) ≤ (bc : Int) := by omega
          have g4 : (0 : Int) ≤ (j : Int) := by omega
          refine wp_region_U (S := (fun w' => w'.cell? ⟨pa, 7, none⟩ = some (.slice fA fn fc) ∧ w'.cell? ⟨pa, 8, none⟩ = some (.slice bA bn bc) ∧ w'.cell? ⟨qb, qo, none⟩ = some (.int .i64 i) ∧ w'.cell? ⟨qb, qo + 1, none⟩ = some (.int .i64 j))) 23 (by kernel_rfl) ?_ (fun hHeld => ?_)
          · (try dsimp only); exact HS14.out _ hL
          refine wpAnyU_takeW (i := 0) (oi := { dst := some 97, op := _, type := _, pos := _, after := _, guard := _ }) (v := ?_) (by kernel_rfl) rfl (by kernel_rfl) (by kernel_rfl) (by kernel_rfl) (fun _ _ _ h => h) (Or.inl ⟨by rfl, ?_⟩) (by assumption) ?_
          rotate_left
          · (intro w hSw; (try dsimp only at hSw); go_simp; (try with_reducible rfl))
          (try simp only [Act.put, List.setIfInBounds_toArray, List.set_cons_zero, List.set_cons_succ])
          refine wpAnyU_takeW (i := 1) (oi := { dst := some 98, op := _, type := _, pos := _, after := _, guard := _ }) (v := ?_) (by kernel_rfl) rfl (by kernel_rfl) (by kernel_rfl) (by kernel_rfl) (fun _ _ _ h => h) (Or.inl ⟨by rfl, ?_⟩) (by assumption) ?_
          rotate_left
          · (intro w hSw; (try dsimp only at hSw); go_simp; (try with_reducible rfl))
          (try simp only [Act.put, List.setIfInBounds_toArray, List.set_cons_zero, List.set_cons_succ])
          refine wpAnyU_takeW (i := 2) (oi := { dst := some 99, op := _, type := _, pos := _, after := _, guard := _ }) (v := ?_) (by kernel_rfl) rfl (by kernel_rfl) (by kernel_rfl) (by kernel_rfl) (fun _ _ _ h => h) (Or.inl ⟨by rfl, ?_⟩) (by assumption) ?_
          rotate_left
          · (intro w hSw; (try dsimp only at hSw); go_simp; (try with_reducible rfl))
          (try simp only [Act.put, List.setIfInBounds_toArray, List.set_cons_zero, List.set_cons_succ])
          refine wpAnyU_takeW (i := 3) (oi := { dst := some 100, op := _, type := _, pos := _, after := _, guard := _ }) (v := ?_) (by kernel_rfl) rfl (by kernel_rfl) (by kernel_rfl) (by kernel_rfl) (fun _ _ _ h => h) (Or.inl ⟨by rfl, ?_⟩) (by assumption) ?_
          rotate_left
          · (intro w hSw; (try dsimp only at hSw); go_simp; (try with_reducible rfl))
          (try simp only [Act.put, List.setIfInBounds_toArray, List.set_cons_zero, List.set_cons_succ])
          refine wpAnyU_takeW (i := 4) (oi := { dst := some 101, op := _, type := _, pos := _, after := _, guard := _ }) (v := ?_) (by kernel_rfl) rfl (by kernel_rfl) (by kernel_rfl) (by kernel_rfl) (fun _ _ _ h => h) (Or.inl ⟨by rfl, ?_⟩) (by assumption) ?_
          rotate_left
          · (intro w hSw; (try dsimp only at hSw); go_simp; (try with_reducible rfl))
          (try simp only [Act.put, List.setIfInBounds_toArray, List.set_cons_zero, List.set_cons_succ])
          refine wpAnyU_take (i := 5) (oi := { dst := some 102, op := _, type := _, pos := _, after := _, guard := _ }) (v := ?_) [7, 21, 22, 23, 24, 25, 26] (by kernel_rfl) (by kernel_rfl) (by kernel_rfl) (by kernel_rfl) rfl (by kernel_rfl) (by kernel_rfl) (by kernel_rfl) (fun _ _ _ h => h) (Or.inl ⟨by rfl, ?_⟩) (by assumption) ?_
          rotate_left
          · (intro w hSw; (try dsimp only at hSw); go_simp; (try with_reducible rfl))
          (try simp only [Act.put, List.setIfInBounds_toArray, List.set_cons_zero, List.set_cons_succ])
          refine wpAnyU_takeW (i := 6) (oi := { dst := some 103, op := _, type := _, pos := _, after := _, guard := _ }) (v := ?_) (by kernel_rfl) rfl (by kernel_rfl) (by kernel_rfl) (by kernel_rfl) (fun _ _ _ h => h) (Or.inl ⟨by rfl, ?_⟩) (by assumption) ?_
          rotate_left
          · (intro w hSw; (try dsimp only at hSw); go_simp; (try with_reducible rfl))
          (try simp only [Act.put, List.setIfInBounds_toArray, List.set_cons_zero, List.set_cons_succ])
          refine wpAnyU_takeW (i := 8) (oi := { dst := some 105, op := _, type := _, pos := _, after := _, guard := _ }) (v := ?_) (by kernel_rfl) rfl (by kernel_rfl) (by kernel_rfl) (by kernel_rfl) (fun _ _ _ h => h) (Or.inl ⟨by rfl, ?_⟩) (by assumption) ?_
          rotate_left
          · (intro w hSw; (try dsimp only at hSw); go_simp; (try with_reducible rfl))
          (try simp only [Act.put, List.setIfInBounds_toArray, List.set_cons_zero, List.set_cons_succ])
          refine wpAnyU_takeW (i := 9) (oi := { dst := some 106, op := _, type := _, pos := _, after := _, guard := _ }) (v := ?_) (by kernel_rfl) rfl (by kernel_rfl) (by kernel_rfl) (by kernel_rfl) (fun _ _ _ h => h) (Or.inl ⟨by rfl, ?_⟩) (by assumption) ?_
          rotate_left
          · (intro w hSw; (try dsimp only at hSw); go_simp; (try with_reducible rfl))
          (try simp only [Act.put, List.setIfInBounds_toArray, List.set_cons_zero, List.set_cons_succ])
          refine wpAnyU_takeW (i := 10) (oi := { dst := some 107, op := _, type := _, pos := _, after := _, guard := _ }) (v := ?_) (by kernel_rfl) rfl (by kernel_rfl) (by kernel_rfl) (by kernel_rfl) (fun _ _ _ h => h) (Or.inl ⟨by rfl, ?_⟩) (by assumption) ?_
          rotate_left
          · (intro w hSw; (try dsimp only at hSw); go_simp; (try with_reducible rfl))
          (try simp only [Act.put, List.setIfInBounds_toArray, List.set_cons_zero, List.set_cons_succ])
          refine wpAnyU_take (i := 11) (oi := { dst := some 108, op := _, type := _, pos := _, after := _, guard := _ }) (v := ?_) [20, 21, 22, 23, 24, 25, 26] (by kernel_rfl) (by kernel_rfl) (by kernel_rfl) (by kernel_rfl) rfl (by kernel_rfl) (by kernel_rfl) (by kernel_rfl) (fun _ _ _ h => h) (Or.inl ⟨by rfl, ?_⟩) (by assumption) ?_
          rotate_left
          · (intro w hSw; (try dsimp only at hSw); go_simp; (try with_reducible rfl))
          (try simp only [Act.put, List.setIfInBounds_toArray, List.set_cons_zero, List.set_cons_succ])
          refine wpAnyU_takeW (i := 12) (oi := { dst := some 109, op := _, type := _, pos := _, after := _, guard := _ }) (v := ?_) (by kernel_rfl) rfl (by kernel_rfl) (by kernel_rfl) (by kernel_rfl) (fun _ _ _ h => h) (Or.inl ⟨by rfl, ?_⟩) (by assumption) ?_
          rotate_left
          · (intro w hSw; (try dsimp only at hSw); go_simp; (try with_reducible rfl))
          (try simp only [Act.put, List.setIfInBounds_toArray, List.set_cons_zero, List.set_cons_succ])
          refine wpAnyU_takeW (i := 13) (oi := { dst := some 110, op := _, type := _, pos := _, after := _, guard := _ }) (v := ?_) (by kernel_rfl) rfl (by kernel_rfl) (by kernel_rfl) (by kernel_rfl) (fun _ _ _ h => h) (Or.inl ⟨by rfl, ?_⟩) (by assumption) ?_
          rotate_left
          · (intro w hSw; (try dsimp only at hSw); go_simp; (try with_reducible rfl))
          (try simp only [Act.put, List.setIfInBounds_toArray, List.set_cons_zero, List.set_cons_succ])
          refine wpAnyU_takeW (i := 14) (oi := { dst := some 111, op := _, type := _, pos := _, after := _, guard := _ }) (v := ?_) (by kernel_rfl) rfl (by kernel_rfl) (by kernel_rfl) (by kernel_rfl) (fun _ _ _ h => h) (Or.inl ⟨by rfl, ?_⟩) (by assumption) ?_
          rotate_left
          · (intro w hSw; (try dsimp only at hSw); go_simp; (try with_reducible rfl))
          (try simp only [Act.put, List.setIfInBounds_toArray, List.set_cons_zero, List.set_cons_succ])
          refine wpAnyU_take (i := 15) (oi := { dst := some 112, op := _, type := _, pos := _, after := _, guard := _ }) (v := ?_) [20, 21, 22, 23, 24, 25, 26] (by kernel_rfl) (by kernel_rfl) (by kernel_rfl) (by kernel_rfl) rfl (by kernel_rfl) (by kernel_rfl) (by kernel_rfl) (fun _ _ _ h => h) (Or.inl ⟨by rfl, ?_⟩) (by assumption) ?_
          rotate_left
          · (intro w hSw; (try dsimp only at hSw); go_simp; (try with_reducible rfl))
          (try simp only [Act.put, List.setIfInBounds_toArray, List.set_cons_zero, List.set_cons_succ])
          refine wpAnyU_takeW (i := 16) (oi := { dst := some 113, op := _, type := _, pos := _, after := _, guard := _ }) (v := ?_) (by kernel_rfl) rfl (by kernel_rfl) (by kernel_rfl) (by kernel_rfl) (fun _ _ _ h => h) (Or.inl ⟨by rfl, ?_⟩) (by assumption) ?_
          rotate_left
          · (intro w hSw; (try dsimp only at hSw); go_simp; (try with_reducible rfl))
          (try simp only [Act.put, List.setIfInBounds_toArray, List.set_cons_zero, List.set_cons_succ])
          refine wpAnyU_takeW (i := 17) (oi := { dst := some 114, op := _, type := _, pos := _, after := _, guard := _ }) (v := ?_) (by kernel_rfl) rfl (by kernel_rfl) (by kernel_rfl) (by kernel_rfl) (fun _ _ _ h => h) (Or.inl ⟨by rfl, ?_⟩) (by assumption) ?_
          rotate_left
          · (intro w hSw; (try dsimp only at hSw); go_simp; (try with_reducible rfl))
          (try simp only [Act.put, List.setIfInBounds_toArray, List.set_cons_zero, List.set_cons_succ])
          refine wpAnyU_takeW (i := 18) (oi := { dst := some 115, op := _, type := _, pos := _, after := _, guard := _ }) (v := ?_) (by kernel_rfl) rfl (by kernel_rfl) (by kernel_rfl) (by kernel_rfl) (fun _ _ _ h => h) (Or.inl ⟨by rfl, ?_⟩) (by assumption) ?_
          rotate_left
          · (intro w hSw; (try dsimp only at hSw); go_simp; (try with_reducible rfl))
          (try simp only [Act.put, List.setIfInBounds_toArray, List.set_cons_zero, List.set_cons_succ])
          refine wpAnyU_take (i := 19) (oi := { dst := some 116, op := _, type := _, pos := _, after := _, guard := _ }) (v := ?_) [20, 21, 22, 23, 24, 25, 26] (by kernel_rfl) (by kernel_rfl) (by kernel_rfl) (by kernel_rfl) rfl (by kernel_rfl) (by kernel_rfl) (by kernel_rfl) (fun _ _ _ h => h) (Or.inl ⟨by rfl, ?_⟩) (by assumption) ?_
          rotate_left
          · (intro w hSw; (try dsimp only at hSw); go_simp; (try with_reducible rfl))
          (try simp only [Act.put, List.setIfInBounds_toArray, List.set_cons_zero, List.set_cons_succ])
          refine wpAnyU_takeW (i := 20) (oi := { dst := some 117, op := _, type := _, pos := _, after := _, guard := _ }) (v := ?_) (by kernel_rfl) rfl (by kernel_rfl) (by kernel_rfl) (by kernel_rfl) (fun _ _ _ h => h) (Or.inl ⟨by rfl, ?_⟩) (by assumption) ?_
          rotate_left
          · (intro w hSw; (try dsimp only at hSw); go_simp; (try with_reducible rfl))
          (try simp only [Act.put, List.setIfInBounds_toArray, List.set_cons_zero, List.set_cons_succ])
          refine wpAnyU_ready (rs := [7]) (by kernel_rfl) (by simp) ?_
          refine AllReadyU.cons (o := { dst := some 104, op := _, type := _, pos := _, after := _, guard := _ }) rfl (fun K hK => ?_) AllReadyU.nil
          go_simp
          refine (HSt.out _ hL).mono ?_; rintro e w8 ⟨nA, nn, nc, rfl, -, hnc, hb8, hown8⟩; have hown8 := Lib.hid hown8; replace hL := hL.trans hb8; clear hb8
          try go_wp2_with fail
          refine hK.out _ _ ?_ (fun hHeld => ?_)
          · (try dsimp only); exact HS14.out _ hL
          clear hK K
          (try simp only [Act.put, List.setIfInBounds_toArray, List.set_cons_zero, List.set_cons_succ])
          refine wpAnyU_takeW (i := 21) (oi := { dst := some 118, op := _, type := _, pos := _, after := _, guard := _ }) (v := ?_) (by kernel_rfl) rfl (by kernel_rfl) (by kernel_rfl) (by kernel_rfl) (fun _ _ _ h => h) (Or.inl ⟨by rfl, ?_⟩) (by assumption) ?_
          rotate_left
          · (intro w hSw; (try dsimp only at hSw); go_simp; (try with_reducible rfl))
          (try simp only [Act.put, List.setIfInBounds_toArray, List.set_cons_zero, List.set_cons_succ])
          refine wpAnyU_takeW (i := 22) (oi := { dst := some 119, op := _, type := _, pos := _, after := _, guard := _ }) (v := ?_) (by kernel_rfl) rfl (by kernel_rfl) (by kernel_rfl) (by kernel_rfl) (fun _ _ _ h => h) (Or.inl ⟨by rfl, ?_⟩) (by assumption) ?_
          rotate_left
          · (intro w hSw; (try dsimp only at hSw); go_simp; (try with_reducible rfl))
          (try simp only [Act.put, List.setIfInBounds_toArray, List.set_cons_zero, List.set_cons_succ])
          refine wpAnyU_ready (rs := [23]) (by kernel_rfl) (by simp) ?_
          refine AllReadyU.stop (o := { dst := none, op := _, type := _, pos := _, after := _, guard := _ }) rfl (by kernel_rfl) (fun K hK => ?_) AllReadyU.nil
          have HB8x := HZ1.out.blk.ext hL; have k7 : w8.cell? ⟨pa, 7, none⟩ = some (.slice fA fn fc) := HB8x.cell 7; have k8 : w8.cell? ⟨pa, 8, none⟩ = some (.slice bA bn bc) := HB8x.cell 8; have f7 : w8.frozen? ⟨pa, 7, none⟩ = false := HB8x.frozen 7; have f8 : w8.frozen? ⟨pa, 8, none⟩ = false := HB8x.frozen 8; clear HB8x
          go_simp
          try go_wp2_with fail
          refine hK.out _ _ ?_ (fun hHeld => ?_)
          · (try dsimp only); (try trivial)
          clear hK K
          (try simp only [Act.put, List.setIfInBounds_toArray, List.set_cons_zero, List.set_cons_succ])
          refine wpAnyH_take (i := 24) (oi := { dst := some 120, op := _, type := _, pos := _, after := _, guard := _ }) (v := ?_) rfl (by kernel_rfl) (by kernel_rfl) (by kernel_rfl) (fun _ _ _ h => h) (Or.inl ⟨by rfl, ?_⟩) (by assumption) ?_
          rotate_left
          · (intro w hSw; (try dsimp only at hSw); go_simp; (try with_reducible rfl))
          (try simp only [Act.put, List.setIfInBounds_toArray, List.set_cons_zero, List.set_cons_succ])
          refine wpAnyH_take (i := 25) (oi := { dst := some 121, op := _, type := _, pos := _, after := _, guard := _ }) (v := ?_) rfl (by kernel_rfl) (by kernel_rfl) (by kernel_rfl) (fun _ _ _ h => h) (Or.inl ⟨by rfl, ?_⟩) (by assumption) ?_
          rotate_left
          · (intro w hSw; (try dsimp only at hSw); go_simp; (try with_reducible rfl))
          (try simp only [Act.put, List.setIfInBounds_toArray, List.set_cons_zero, List.set_cons_succ])
          refine wpAnyH_ready (rs := [26]) (by kernel_rfl) (by simp) ?_
          refine AllReadyH.cons (o := { dst := none, op := _, type := _, pos := _, after := _, guard := _ }) rfl (fun K hK => ?_) AllReadyH.nil
          go_simp
          try go_wp2_with fail
          refine hK.out _ _ ?_ (fun hHeld => ?_)
          · (try dsimp only); (try trivial)
          clear hK K
          (try simp only [Act.put, List.setIfInBounds_toArray, List.set_cons_zero, List.set_cons_succ])
          refine wpAnyH_done (by kernel_rfl) ?_ _
          clear k7 k8 f7 f8
          have hB8 := (HZ1.out.ext hL).bd
          have hrd : Rd w8 1 (Option.map (fun x => x.add i) bA) (j - i) (bytC (body.extract i j)) := by
            have h1 := hB8.rd.drop (i := i) (by simp only; omega) hB8.cap
            rw [if_neg (by simp only; omega)] at h1
            have h2 := h1.take (i := j - i) (by simp only; omega)
            simp only [Nat.mul_one] at h2
            rw [bytC_cut body i j (by omega) (by rw [hbn]; omega)] at h2
            exact h2
          have hRB : RS (fun i => i = pa) w8 1 ⟨Option.map (fun x => x.add i) bA, j - i, bc - i⟩ (bytC (body.extract i j)) := ⟨hrd, fun h0 a ha hp => by
            obtain ⟨a0, ha0, rfl⟩ := Option.map_eq_some_iff.1 ha
            refine hB8.out (by rw [bytC_len]; simp only; omega) a0 ha0 ?_
            rw [← show (a0.add i).block = pa from hp]
            unfold Addr.add; split <;> rfl, by simp only; omega⟩
          have hRF : RS (fun i => i = pa) w8 2 ⟨nA, nn, nc⟩ (fldCells (setS x_cr text afs)) := ⟨Rd.of_own hown8.out, fun h1 a ha hb => by
            have h9 := (hown8.out.lt a.block (by simp only at ha; subst ha; rfl)).1
            have h8 : pa < W13.drew.heap.size := hpW
            (try simp only at hb)
            omega, hnc⟩
          have HZ2 := Lib.hid ((HZ1.out.ext hL).put2 hRF hRB)
          simp only [Sl.v] at HZ2
          generalize ((w8.setCell ⟨pa, 7, none⟩ (.slice nA nn nc)).setCell ⟨pa, 8, none⟩ (.slice (Option.map (fun x => x.add i) bA) (j - i) (bc - i))) = wF at *
          clear hB8 hrd hRB hRF
          go_wp2_with fail
          go_ret
          exact ⟨true, rfl, ⟨_, _, by rw [HP.out]; exact HZ2.out.1⟩, (HW13.out.trans (Keeps.of hL)).trans HZ2.out.2⟩
end Go.Proofs.YtmckbcbdnckngaaGreatDoor

namespace Go.Proofs.YtmckbcbdnckngaaGreatDoor

def sameTo (a b : List Fd) (k : Nat) : Bool := (a.take k).all fun x => decide (allS a x.1 = allS b x.1)
/-- Whether two lists of fields have the same values for each name, in order. -/
def sameS (a b : List Fd) : Bool := decide (a.length = b.length) && a.all fun x => decide (allS a x.1 = allS b x.1)

theorem mem_of_counts {α : Type} [BEq α] [LawfulBEq α] : ∀ (ka kb : List α), (∀ k ∈ ka, ka.count k ≤ kb.count k) → kb.length ≤ ka.length → ∀ y ∈ kb, y ∈ ka
  | [], kb, _, hl, y, hy => by
    have : kb = [] := List.eq_nil_of_length_eq_zero (by simpa using hl)
    subst this; simp at hy
  | k :: ka, kb, hc, hl, y, hy => by
    have hk : k ∈ kb := by
      have := hc k (List.mem_cons_self ..)
      rw [List.count_cons_self] at this
      exact List.count_pos_iff.1 (by omega)
    by_cases e : y = k
    · subst e; exact List.mem_cons_self ..
    · refine List.mem_cons_of_mem _ (mem_of_counts ka (kb.erase k) (fun k' hk' => ?_) ?_ y ((List.mem_erase_of_ne e).2 hy))
      · have := hc k' (List.mem_cons_of_mem _ hk')
        rw [List.count_cons] at this
        rw [List.count_erase]
        by_cases e2 : k == k'
        · simp [e2] at this ⊢; omega
        · simp [e2] at this ⊢; omega
      · rw [List.length_erase_of_mem hk]
        simp only [List.length_cons] at hl
        omega

theorem isN_iff {name : ByteArray} {f : Fd} : isN name f = true ↔ lowS f.1 = lowS name := eqS_iff
theorem allS_key {fs : List Fd} {x y : ByteArray} (h : lowS x = lowS y) : allS fs x = allS fs y := by
  unfold allS
  have : isN x = isN y := by funext f; unfold isN; rw [h]
  rw [this]
def keyS (f : Fd) : List UInt8 := (lowS f.1).data.toList
theorem keyS_iff {f g : Fd} : keyS f = keyS g ↔ lowS f.1 = lowS g.1 := ⟨bytes_ext, fun h => by rw [keyS, keyS, h]⟩
theorem allS_count (fs : List Fd) (x : Fd) : (allS fs x.1).length = (fs.map keyS).count (keyS x) := by
  unfold allS
  rw [List.length_map, List.count, List.countP_map, List.countP_eq_length_filter]
  congr 1
  apply List.filter_congr
  intro f _
  rw [Bool.eq_iff_iff, isN_iff, ← keyS_iff]
  simp

theorem sameS_iff {a b : List Fd} : sameS a b = true ↔ a.length = b.length ∧ ∀ x ∈ a, allS a x.1 = allS b x.1 := by
  simp [sameS, List.all_eq_true]
theorem sameS_half {a b : List Fd} (h : sameS a b = true) : sameS b a = true := by
  rw [sameS_iff] at *
  obtain ⟨hl, ha⟩ := h
  refine ⟨hl.symm, fun y hy => ?_⟩
  have hm := mem_of_counts (a.map keyS) (b.map keyS) (fun k hk => by
    obtain ⟨x, hx, rfl⟩ := List.mem_map.1 hk
    rw [← allS_count, ← allS_count, ha x hx]
    exact Nat.le_refl _) (by simp; omega) (keyS y) (List.mem_map.2 ⟨y, hy, rfl⟩)
  obtain ⟨x, hx, hk⟩ := List.mem_map.1 hm
  rw [allS_key (fs := b) (keyS_iff.1 hk.symm), allS_key (fs := a) (keyS_iff.1 hk.symm)]
  exact (ha x hx).symm
theorem sameS_symm (a b : List Fd) : sameS b a = sameS a b := by
  rw [Bool.eq_iff_iff]
  exact ⟨sameS_half, sameS_half⟩
theorem sameS_refl (a : List Fd) : sameS a a = true := by
  rw [sameS_iff]; exact ⟨rfl, fun _ _ => rfl⟩

theorem sameTo_step {a b : List Fd} {k : Nat} (h : k < a.length) (h1 : sameTo a b k = true) (h2 : allS a a[k].1 = allS b a[k].1) : sameTo a b (k + 1) = true := by
  unfold sameTo at *
  rw [take_step a k h, List.all_append, h1]; simp [h2]
theorem sameS_end {a b : List Fd} (hl : a.length = b.length) (h : sameTo a b a.length = true) : true = sameS a b := by
  unfold sameTo at h
  rw [List.take_of_length_le (Nat.le_refl _)] at h
  unfold sameS
  rw [h, decide_eq_true hl]; rfl
theorem sameS_no {a b : List Fd} {k : Nat} (h : k < a.length) (h2 : allS a a[k].1 ≠ allS b a[k].1) : false = sameS a b := by
  unfold sameS
  have : (a.all fun x => decide (allS a x.1 = allS b x.1)) = false := by
    rw [List.all_eq_false]
    exact ⟨a[k], List.getElem_mem h, by simpa using h2⟩
  rw [this]; simp
theorem sameS_len {a b : List Fd} (h : a.length ≠ b.length) : false = sameS a b := by
  unfold sameS; rw [decide_eq_false h]; rfl
end Go.Proofs.YtmckbcbdnckngaaGreatDoor

namespace Go.Proofs.YtmckbcbdnckngaaGreatDoor

theorem lowC_low (c : UInt8) : lowC (lowC c) = lowC c := by
  by_cases h : (65 ≤ c && c ≤ 90) = true
  · have h1 : lowC c = c + 32 := by rw [lowC, if_pos h]
    rw [h1, lowC, if_neg]
    simp only [Bool.and_eq_true, decide_eq_true_eq, UInt8.le_iff_toNat_le, UInt8.toNat_add, not_and, Nat.not_le] at *
    intro _
    have : (65 : UInt8).toNat = 65 := rfl
    have : (90 : UInt8).toNat = 90 := rfl
    have : (32 : UInt8).toNat = 32 := rfl
    omega
  · have h1 : lowC c = c := by rw [lowC, if_neg h]
    rw [h1, h1]
theorem lowS_low (s : ByteArray) : lowS (lowS s) = lowS s := by
  apply bytes_ext
  simp [lowS, lowL, lowC_low]
theorem isN_low (name v : ByteArray) (o : ByteArray) : isN o (lowS name, v) = decide (lowS name = lowS o) := by
  rw [Bool.eq_iff_iff, isN_iff, decide_eq_true_iff, lowS_low]
theorem allS_app (fs gs : List Fd) (o : ByteArray) : allS (fs ++ gs) o = allS fs o ++ allS gs o := by simp [allS]
theorem allS_one_same (name v : ByteArray) : allS [(lowS name, v)] name = [v] := by
  simp [allS, isN_low]
theorem allS_one_other {name o : ByteArray} (v : ByteArray) (h : lowS name ≠ lowS o) : allS [(lowS name, v)] o = [] := by
  simp [allS, isN_low, h]
theorem allS_cons (f : Fd) (fs : List Fd) (o : ByteArray) : allS (f :: fs) o = (if isN o f then [f.2] else []) ++ allS fs o := by
  unfold allS
  by_cases h : isN o f = true
  · simp [h]
  · simp [h]
theorem allS_rem_same (fs : List Fd) (name : ByteArray) : allS (remS fs name) name = [] := by
  unfold allS remS
  rw [List.filter_filter]
  have : (fs.filter fun a => isN name a && !isN name a) = [] := by
    rw [List.filter_eq_nil_iff]; intro a _; simp
  rw [this]; rfl
theorem allS_rem_other (fs : List Fd) {name o : ByteArray} (h : lowS name ≠ lowS o) : allS (remS fs name) o = allS fs o := by
  unfold allS remS
  rw [List.filter_filter]
  congr 1
  apply List.filter_congr
  intro f _
  by_cases h1 : isN o f = true
  · have h2 : isN name f = false := by
      rw [Bool.eq_false_iff]; intro h3
      exact h ((isN_iff.1 h3).symm.trans (isN_iff.1 h1))
    simp [h1, h2]
  · simp [h1]
theorem allS_set_same (name value : ByteArray) : ∀ fs : List Fd, allS (setS name value fs) name = [value]
  | [] => allS_one_same name value
  | f :: r => by
    unfold setS
    by_cases h : isN name f = true
    · rw [if_pos h, allS_cons, allS_rem_same, isN_low]; simp
    · rw [if_neg h, allS_cons, if_neg h, allS_set_same name value r]; rfl
theorem allS_set_other {name o : ByteArray} (value : ByteArray) (hne : lowS name ≠ lowS o) : ∀ fs : List Fd, allS (setS name value fs) o = allS fs o
  | [] => by rw [setS, allS_one_other value hne]; rfl
  | f :: r => by
    unfold setS
    by_cases h : isN name f = true
    · have h2 : isN o f = false := by
        rw [Bool.eq_false_iff]; intro h3
        exact hne ((isN_iff.1 h).symm.trans (isN_iff.1 h3))
      rw [if_pos h, allS_cons, allS_cons, allS_rem_other r hne, isN_low, h2]; simp [hne]
    · rw [if_neg h, allS_cons, allS_cons, allS_set_other value hne r]
theorem allS_add_same (fs : List Fd) (name value : ByteArray) : allS (fs ++ [(lowS name, value)]) name = allS fs name ++ [value] := by rw [allS_app, allS_one_same]
theorem allS_add_other (fs : List Fd) {name o : ByteArray} (value : ByteArray) (h : lowS name ≠ lowS o) : allS (fs ++ [(lowS name, value)]) o = allS fs o := by rw [allS_app, allS_one_other value h, List.append_nil]

theorem setS_bsz {B : Nat} {name value : ByteArray} (h1 : name.size ≤ B) (h2 : value.size ≤ B) : ∀ {fs : List Fd}, Bsz B fs → Bsz B (setS name value fs)
  | [], _ => by intro f hf; simp [setS] at hf; subst hf; exact ⟨by rw [lowS_size]; exact h1, h2⟩
  | g :: r, h => by
    have hr : Bsz B r := fun f hf => h f (List.mem_cons_of_mem _ hf)
    unfold setS
    split
    · intro f hf
      rcases List.mem_cons.1 hf with rfl | hf
      · exact ⟨by rw [lowS_size]; exact h1, h2⟩
      · exact hr f ((List.mem_filter.1 hf).1)
    · intro f hf
      rcases List.mem_cons.1 hf with rfl | hf
      · exact h _ (List.mem_cons_self ..)
      · exact setS_bsz h1 h2 hr f hf
theorem addS_bsz {B : Nat} {name value : ByteArray} (h1 : name.size ≤ B) (h2 : value.size ≤ B) {fs : List Fd} (h : Bsz B fs) : Bsz B (fs ++ [(lowS name, value)]) := by
  intro f hf
  rcases List.mem_append.1 hf with hf | hf
  · exact h f hf
  · simp at hf; subst hf; exact ⟨by rw [lowS_size]; exact h1, h2⟩
theorem remS_bsz {B : Nat} {name : ByteArray} {fs : List Fd} (h : Bsz B fs) : Bsz B (remS fs name) := fun f hf => h f ((List.mem_filter.1 hf).1)
end Go.Proofs.YtmckbcbdnckngaaGreatDoor

namespace Go.Proofs.YtmckbcbdnckngaaGreatDoor
open Go.RowKit

/-- What is written is read back. -/
theorem wr_size {tw : Bool} {tt W : ByteArray} (h : wrO tw tt = some W) : W.size ≤ tt.size + 4 := by
  unfold wrO at h
  split at h
  · injection h with h
    subst h
    unfold wrS
    rw [ByteArray.size_append, ByteArray.size_append, show qS.size = 1 from rfl]
    have : (if tw = true then wqS else qS).size ≤ 3 := by cases tw <;> decide
    omega
  · cases h
theorem wr_back {tw : Bool} {tt W : ByteArray} (h : wrO tw tt = some W) : tagS W = some (tw, tt) := by
  unfold wrO at h
  split at h
  · rename_i hr
    injection h with h
    subst h
    have hq : ∀ t : ByteArray, rightS t = true → txtS (qS ++ t ++ qS) = some t := by
      intro t ht
      have hsz : (qS ++ t ++ qS).size = t.size + 2 := by
        rw [ByteArray.size_append, ByteArray.size_append, show qS.size = 1 from rfl]; omega
      have hl : (qS ++ t ++ qS).data.toList = 34 :: (t.data.toList ++ [34]) := by
        rw [data_append, data_append]; rfl
      have hx : (qS ++ t ++ qS).extract 1 ((qS ++ t ++ qS).size - 1) = t := by
        apply bytes_ext
        rw [← ByteArray.toList_eq, Lib.extract_toList, hl, hsz]
        rw [List.drop_succ_cons, List.drop_zero, show t.size + 2 - 1 - 1 = t.data.toList.length by simp]
        exact List.take_left
      rw [txt_at (by omega), if_pos, hx]
      refine ⟨?_, ?_, by rw [hx]; exact ht⟩
      · have h1 : (qS ++ t ++ qS).data.toList[0]'(by rw [hl]; simp) = 34 := by simp only [hl]; rfl
        exact h1
      · have h1 : (qS ++ t ++ qS).data.toList[(qS ++ t ++ qS).size - 1]'(by rw [hl, hsz]; simp only [List.length_cons, List.length_append, List.length_nil, Array.length_toList]; show t.size + 2 - 1 < t.size + (0 + 1) + 1; omega) = 34 := by
          simp only [hl, hsz]
          have : t.size = t.data.toList.length := by simp
          simp only [this]
          simp
        exact h1
    unfold tagS
    cases tw
    · have hw : wkR (wrS false tt) = qS ++ tt ++ qS ∧ wkP (wrS false tt) = false := by
        have hl : (wrS false tt).data.toList = 34 :: (tt.data.toList ++ [34]) := by unfold wrS; rw [data_append, data_append]; rfl
        have hp : Lib.hasPrefix (34 :: (tt.data.toList ++ [34])) [87, 47] = false := by simp [Lib.hasPrefix, List.isPrefixOf]
        unfold wkR wkP Lib.trimPrefix
        rw [hl, hp]
        exact ⟨bytes_ext (by rw [data_append, data_append]; rfl), rfl⟩
      rw [hw.1, hw.2, hq tt hr]; rfl
    · have hw : wkR (wrS true tt) = qS ++ tt ++ qS ∧ wkP (wrS true tt) = true := by
        have hl : (wrS true tt).data.toList = 87 :: 47 :: 34 :: (tt.data.toList ++ [34]) := by unfold wrS; rw [data_append, data_append]; rfl
        have hp : Lib.hasPrefix (87 :: 47 :: 34 :: (tt.data.toList ++ [34])) [87, 47] = true := by simp [Lib.hasPrefix, List.isPrefixOf]
        unfold wkR wkP Lib.trimPrefix
        rw [hl, hp]
        exact ⟨bytes_ext (by rw [data_append, data_append]; rfl), rfl⟩
      rw [hw.1, hw.2, hq tt hr]; rfl
  · cases h

end Go.Proofs.YtmckbcbdnckngaaGreatDoor

namespace Go.Proofs.YtmckbcbdnckngaaGreatDoor

theorem getO_one {fs : List Fd} {o v : ByteArray} (h : allS fs o = [v]) : getO fs o = some v := by
  unfold getO; rw [h, joinS_one]; rfl
theorem getO_nil {fs : List Fd} {o : ByteArray} (h : allS fs o = []) : getO fs o = none := by unfold getO; rw [h]; rfl
theorem getO_eq {fs gs : List Fd} {o : ByteArray} (h : allS fs o = allS gs o) : getO fs o = getO gs o := by unfold getO; rw [h]
theorem dateF_eq {fs gs : List Fd} {o : ByteArray} (h : allS fs o = allS gs o) : dateF fs o = dateF gs o := by unfold dateF; rw [getO_eq h]
theorem dateF_nil {fs : List Fd} {o : ByteArray} (h : allS fs o = []) : dateF fs o = none := by unfold dateF; rw [getO_nil h]; rfl

theorem low_im : lowS imN = imN := by decide +kernel
theorem low_ius : lowS iusN = iusN := by decide +kernel
theorem low_inm : lowS inmN = inmN := by decide +kernel
theorem low_ims : lowS imsN = imsN := by decide +kernel
theorem d_im_ius : lowS iusN ≠ lowS imN := by decide +kernel
theorem d_im_inm : lowS imN ≠ lowS inmN := by decide +kernel
theorem d_im_ims : lowS imN ≠ lowS imsN := by decide +kernel
theorem d_inm_ius : lowS inmN ≠ lowS iusN := by decide +kernel
theorem d_inm_ims : lowS inmN ≠ lowS imsN := by decide +kernel
theorem d_ius_ims : lowS iusN ≠ lowS imsN := by decide +kernel

theorem sumF_cons (f : Fd) (fs : List Fd) : sumF (f :: fs) = f.1.size + f.2.size + sumF fs := by simp [sumF]
theorem sumF_nil : sumF [] = 0 := rfl
theorem sumF_app (fs gs : List Fd) : sumF (fs ++ gs) = sumF fs + sumF gs := by simp [sumF]
theorem sumF_rem (name : ByteArray) : ∀ fs : List Fd, sumF (remS fs name) ≤ sumF fs
  | [] => Nat.le_refl _
  | f :: r => by
    have := sumF_rem name r
    unfold remS at *
    rw [List.filter_cons]
    split
    · rw [sumF_cons, sumF_cons]; omega
    · rw [sumF_cons]; omega
theorem sumF_set (name value : ByteArray) : ∀ fs : List Fd, sumF (setS name value fs) ≤ sumF fs + name.size + value.size
  | [] => by rw [setS, sumF_cons, sumF_nil]; simp only [lowS_size]; omega
  | f :: r => by
    unfold setS
    split
    · have := sumF_rem name r
      rw [sumF_cons, sumF_cons]; simp only [lowS_size]; omega
    · have := sumF_set name value r
      rw [sumF_cons, sumF_cons]; omega
theorem bsz_of_sum : ∀ (fs : List Fd), Bsz (sumF fs) fs
  | [] => fun f hf => by cases hf
  | x :: l => fun f hf => by
    have hs := sumF_cons x l
    rcases List.mem_cons.1 hf with rfl | hf
    · omega
    · have := bsz_of_sum l f hf
      omega

/-- Beside if-match, if-unmodified-since changes nothing. -/
theorem prec_im (m : ByteArray) (fs : List Fd) (st : St) (tags date : ByteArray) : evF m (setS iusN date (setS imN tags fs)) st = evF m (setS imN tags fs) st := by
  have h1 : allS (setS iusN date (setS imN tags fs)) imN = [tags] := by rw [allS_set_other _ d_im_ius, allS_set_same]
  have h2 : allS (setS imN tags fs) imN = [tags] := allS_set_same _ _ _
  unfold evF evS
  rw [getO_one h1, getO_one h2, getO_eq (allS_set_other date d_inm_ius.symm (setS imN tags fs)), dateF_eq (allS_set_other date d_ius_ims (setS imN tags fs))]
  rfl
/-- Beside if-none-match, if-modified-since changes nothing. -/
theorem prec_inm (m : ByteArray) (fs : List Fd) (st : St) (tags date : ByteArray) : evF m (setS imsN date (setS inmN tags fs)) st = evF m (setS inmN tags fs) st := by
  have h1 : allS (setS imsN date (setS inmN tags fs)) inmN = [tags] := by rw [allS_set_other _ d_inm_ims.symm, allS_set_same]
  have h2 : allS (setS inmN tags fs) inmN = [tags] := allS_set_same _ _ _
  unfold evF evS
  rw [getO_one h1, getO_one h2, getO_eq (allS_set_other date d_im_ims.symm (setS inmN tags fs)), dateF_eq (allS_set_other date d_ius_ims.symm (setS inmN tags fs))]
  rfl

theorem evF_range (m : ByteArray) (fs : List Fd) (st : St) : (evF m fs st = 1 ∨ evF m fs st = 2 ∨ evF m fs st = 3) ∧ (evF m fs st = 2 → isR m = true) := by
  unfold evF evS
  generalize evA _ _ _ = a
  generalize norm st = s
  cases a
  · simp only [Bool.false_eq_true, if_false]
    unfold evB
    cases getO fs inmN with
    | some v =>
      show ((if matS v s false = true then _ else _) = _ ∨ (if matS v s false = true then _ else _) = _ ∨ (if matS v s false = true then _ else _) = _) ∧ ((if matS v s false = true then _ else _) = _ → _)
      generalize matS v s false = b
      cases b <;> cases isR m <;> simp
    | none =>
      cases dateF fs imsN with
      | none => simp
      | some n => cases isR m <;> cases s.hm <;> by_cases h : s.md ≤ n <;> simp [h]
  · simp
/-- Without conditions. -/
def bareF (fs : List Fd) : Prop := allS fs imN = [] ∧ allS fs inmN = [] ∧ allS fs imsN = [] ∧ allS fs iusN = []
def bareS (fs : List Fd) : List Fd := remS (remS (remS (remS fs imN) inmN) imsN) iusN
theorem bare_ok (fs : List Fd) : bareF (bareS fs) := by
  unfold bareS
  refine ⟨?_, ?_, ?_, allS_rem_same _ _⟩
  · rw [allS_rem_other _ d_im_ius, allS_rem_other _ d_im_ims.symm, allS_rem_other _ d_im_inm.symm, allS_rem_same]
  · rw [allS_rem_other _ d_inm_ius.symm, allS_rem_other _ d_inm_ims.symm, allS_rem_same]
  · rw [allS_rem_other _ d_ius_ims, allS_rem_same]
theorem evF_bare (m : ByteArray) {fs : List Fd} (st : St) (h : bareF fs) : evF m fs st = 1 := by
  obtain ⟨h1, h2, h3, h4⟩ := h
  unfold evF evS
  rw [getO_nil h1, dateF_nil h4, getO_nil h2, dateF_nil h3]
  rfl
def starV : ByteArray := ⟨#[42]⟩
def starB : ByteArray := ⟨#[32, 42, 32]⟩
theorem mat_star (st : St) (b : Bool) : matS starV st b = st.ex := by
  unfold matS
  rw [show tgO starV = some [] by decide +kernel, show isStar starV = true by decide +kernel]; rfl
theorem mat_starB (st : St) (b : Bool) : matS starB st b = st.ex := by
  unfold matS
  rw [show tgO starB = some [] by decide +kernel, show isStar starB = true by decide +kernel]; rfl
theorem evF_im (m : ByteArray) {fs : List Fd} (st : St) (h : bareF fs) : evF m (fs ++ [(lowS imN, starV)]) st = if st.ex then 1 else 3 := by
  obtain ⟨h1, h2, h3, h4⟩ := h
  unfold evF evS
  rw [getO_one (v := starV) (by rw [allS_add_same, h1]; rfl), getO_nil (by rw [allS_add_other _ _ d_im_inm, h2]), dateF_nil (by rw [allS_add_other _ _ d_im_ius.symm, h4]), dateF_nil (by rw [allS_add_other _ _ d_im_ims, h3])]
  simp only [evA, mat_star, evB, norm]
  cases st.ex <;> rfl
theorem evF_inm (m : ByteArray) {fs : List Fd} (st : St) (h : bareF fs) : evF m (fs ++ [(lowS inmN, starB)]) st = if st.ex then (if isR m then 2 else 3) else 1 := by
  obtain ⟨h1, h2, h3, h4⟩ := h
  unfold evF evS
  rw [getO_one (v := starB) (fs := fs ++ [(lowS inmN, starB)]) (o := inmN) (by rw [allS_add_same, h2]; rfl), getO_nil (o := imN) (by rw [allS_add_other _ _ d_im_inm.symm, h1]), dateF_nil (by rw [allS_add_other _ _ d_inm_ius, h4]), dateF_nil (by rw [allS_add_other _ _ d_inm_ims, h3])]
  simp only [evA, mat_starB, evB, norm]
  cases st.ex <;> simp
theorem remS_len' (fs : List Fd) (name : ByteArray) : (remS fs name).length ≤ fs.length := remS_le fs name
theorem bare_bd (fs : List Fd) : (bareS fs).length ≤ fs.length ∧ sumF (bareS fs) ≤ sumF fs := by
  unfold bareS
  have a1 := remS_le fs imN
  have a2 := remS_le (remS fs imN) inmN
  have a3 := remS_le (remS (remS fs imN) inmN) imsN
  have a4 := remS_le (remS (remS (remS fs imN) inmN) imsN) iusN
  have b1 := sumF_rem imN fs
  have b2 := sumF_rem inmN (remS fs imN)
  have b3 := sumF_rem imsN (remS (remS fs imN) inmN)
  have b4 := sumF_rem iusN (remS (remS (remS fs imN) inmN) imsN)
  omega

theorem dateP_fmt {s : ByteArray} {n : Int} (h : dateP s = some n) : fmtS n = s := by
  unfold dateP at h
  split at h
  · unfold dateQ at h
    split at h
    · cases h
    · split at h
      · split at h
        · rename_i he
          injection h with h
          rw [← h]
          exact eqS_iff.1 he
        · cases h
      · cases h
  · cases h
def getM : ByteArray := ⟨#[71, 69, 84]⟩
def headM : ByteArray := ⟨#[72, 69, 65, 68]⟩
def ifrN : ByteArray := ⟨#[73, 102, 45, 82, 97, 110, 103, 101]⟩
def wsP : ByteArray := ⟨#[87, 47]⟩
def d37 : ByteArray := ⟨#[83, 117, 110, 44, 32, 48, 54, 32, 78, 111, 118, 32, 49, 57, 57, 52, 32, 48, 56, 58, 52, 57, 58, 51, 55, 32, 71, 77, 84]⟩
def d38 : ByteArray := ⟨#[83, 117, 110, 44, 32, 48, 54, 32, 78, 111, 118, 32, 49, 57, 57, 52, 32, 48, 56, 58, 52, 57, 58, 51, 56, 32, 71, 77, 84]⟩
def stR (tw : Bool) (tt : ByteArray) : St := ⟨true, true, true, tw, tt, 784111777⟩
theorem all_ifr (v : ByteArray) : allS [(ifrN, v)] irN = [v] := by
  unfold allS
  rw [List.filter_cons, if_pos (show isN irN (ifrN, v) = true by show ((lowS ifrN).toList == (lowS irN).toList) = true; decide +kernel)]; rfl
theorem ur_one (v : ByteArray) (st : St) : urF getM [(ifrN, v)] st = urV v st := by
  unfold urF
  rw [getO_one (all_ifr v), show (getM.toList == [71, 69, 84]) = true by decide +kernel]; rfl
theorem ur_text {tw : Bool} {tt W : ByteArray} (h : wrO tw tt = some W) : urV W (stR tw tt) = !tw := by
  unfold urV
  rw [wr_back h]
  simp only [stR, eqT]
  cases tw <;> simp
theorem wr_shape {tw : Bool} {tt W : ByteArray} (h : wrO tw tt = some W) : W = wrS tw tt ∧ rightS tt = true := by
  unfold wrO at h
  split at h
  · rename_i hr
    injection h with h
    exact ⟨h.symm, hr⟩
  · cases h
theorem fmt_now : fmtS 784111777 = d37 := by decide +kernel
theorem ur_weak {tw : Bool} {tt W : ByteArray} (h : wrO tw tt = some W) : urV (wsP ++ W) (stR tw tt) = false := by
  obtain ⟨rfl, hr⟩ := wr_shape h
  cases tw
  · have hw : wsP ++ wrS false tt = wrS true tt := by
      apply bytes_ext
      unfold wrS
      simp only [data_append]
      rfl
    have hb : wrO true tt = some (wrS true tt) := by unfold wrO; rw [if_pos hr]
    unfold urV
    rw [hw, wr_back hb]
    rfl
  · have hl : (wsP ++ wrS true tt).data.toList = 87 :: 47 :: 87 :: 47 :: 34 :: (tt.data.toList ++ [34]) := by unfold wrS; rw [data_append, data_append, data_append]; rfl
    have ht : tagS (wsP ++ wrS true tt) = none := by
      refine tag_none ?_
      have hp : Lib.hasPrefix (87 :: 47 :: 87 :: 47 :: 34 :: (tt.data.toList ++ [34])) [87, 47] = true := by simp [Lib.hasPrefix, List.isPrefixOf]
      have hk : (wkR (wsP ++ wrS true tt)).data.toList = 87 :: 47 :: 34 :: (tt.data.toList ++ [34]) := by
        unfold wkR Lib.trimPrefix
        rw [hl, hp]
        rfl
      have hsz : (wkR (wsP ++ wrS true tt)).size = tt.size + 4 := by
        have := congrArg List.length hk
        simp only [Array.length_toList, List.length_cons, List.length_append, List.length_nil] at this
        show (wkR (wsP ++ wrS true tt)).data.size = _
        rw [this]; show tt.data.size + _ + 1 + 1 + 1 = tt.data.size + 4; omega
      refine txt_no0 (by omega) ?_
      have h1 : (wkR (wsP ++ wrS true tt)).data.toList[0]'(by rw [hk]; simp) = 87 := by simp only [hk]; rfl
      rw [show (wkR (wsP ++ wrS true tt))[0]'(by omega) = 87 from h1]
      decide
    unfold urV
    rw [ht]
    simp only []
    cases hd : dateP (wsP ++ wrS true tt) with
    | none => rfl
    | some n =>
      simp only [stR, Bool.true_and]
      rw [beq_eq_false_iff_ne]
      rintro rfl
      have := dateP_fmt hd
      rw [fmt_now] at this
      have := congrArg (fun x => x.data.toList.head?) this
      simp only [hl] at this
      rw [show d37.data.toList.head? = some 83 from rfl, List.head?_cons] at this
      exact absurd this (by decide)
theorem tag_d37 : tagS d37 = none := by decide +kernel
theorem tag_d38 : tagS d38 = none := by decide +kernel
theorem date_d37 : dateP d37 = some 784111777 := by decide +kernel
theorem date_d38 : dateP d38 = some 784111778 := by decide +kernel
theorem ur_d37 (tw : Bool) (tt : ByteArray) : urV d37 (stR tw tt) = true := by
  unfold urV; rw [tag_d37]; simp only []; rw [date_d37]; rfl
theorem ur_d38 (tw : Bool) (tt : ByteArray) : urV d38 (stR tw tt) = false := by
  unfold urV; rw [tag_d38]; simp only []; rw [date_d38]; rfl
theorem ur_other {tw : Bool} {tt other W : ByteArray} (h : wrO false other = some W) (hne : other ≠ tt) : urV W (stR tw tt) = false := by
  unfold urV
  rw [wr_back h]
  simp only [stR, eqT]
  rw [eqS_no hne]
  simp
theorem ur_head (fs : List Fd) (st : St) : urF headM fs st = false := by
  unfold urF; rw [show (headM.toList == [71, 69, 84]) = false by decide +kernel]; rfl
theorem ur_nil (st : St) : urF getM [] st = true := by
  unfold urF; rw [show (getM.toList == [71, 69, 84]) = true by decide +kernel]; rfl
end Go.Proofs.YtmckbcbdnckngaaGreatDoor

namespace Go.Proofs.YtmckbcbdnckngaaGreatDoor
open Go.RowKit

theorem World.size_setCell (w : World) (p : Addr) (u : Value) : (w.setCell p u).heap.size = w.heap.size := by simp [World.setCell]
theorem AnsAt.putS {W : World} {pa : Nat} {t : Int} {a : Ans} {fs bd : Sl} (h : AnsAt W pa t a fs bd) (st : Int) :
    AnsAt (W.setCell ⟨pa, 1, none⟩ (.int .i64 st)) pa t { a with status := st } fs bd ∧ Keeps (fun i => i = pa) W (W.setCell ⟨pa, 1, none⟩ (.int .i64 st)) := by
  have hK := (Keeps.refl (fun i => i = pa) W).set_ (b := pa) rfl 1 (.int .i64 st)
  exact ⟨⟨h.blk.set_ 1 _, h.fs.keep hK (fun i hi => .inl hi), h.bd.keep hK (fun i hi => .inl hi)⟩, hK⟩
theorem AnsAt.putV {W : World} {pa : Nat} {t : Int} {a : Ans} {fs bd fs' bd' : Sl} {F : List Fd} {B : ByteArray} (h : AnsAt W pa t a fs bd) (hf : RS (fun i => i = pa) W 2 fs' (fldCells F)) (hb : RS (fun i => i = pa) W 1 bd' (bytC B)) (n : Int) :
    AnsAt (((W.setCell ⟨pa, 7, none⟩ fs'.v).setCell ⟨pa, 8, none⟩ bd'.v).setCell ⟨pa, 3, none⟩ (.int .i64 n)) pa t { a with fs := F, body := B, variant := n } fs' bd' ∧
    Keeps (fun i => i = pa) W (((W.setCell ⟨pa, 7, none⟩ fs'.v).setCell ⟨pa, 8, none⟩ bd'.v).setCell ⟨pa, 3, none⟩ (.int .i64 n)) := by
  have hK := (((Keeps.refl (fun i => i = pa) W).set_ (b := pa) rfl 7 fs'.v).set_ (b := pa) rfl 8 bd'.v).set_ (b := pa) rfl 3 (.int .i64 n)
  exact ⟨⟨((h.blk.set_ 7 _).set_ 8 _).set_ 3 _, hf.keep hK (fun i hi => .inl hi), hb.keep hK (fun i hi => .inl hi)⟩, hK⟩
theorem chs_bd (v : Ver) (fs : List Fd) (B : Nat) (hb : v.body.size ≤ 1048576) (h1 : v.fs.length ≤ 131072) (h2 : sumF v.fs ≤ 131072) : ∀ (k : Nat) (l : List Vr), (∀ x ∈ l, x.tag.size ≤ 131072 ∧ x.body.size ≤ 1048576) →
    (chsS v fs k l).1.length ≤ 131073 ∧ sumF (chsS v fs k l).1 ≤ 393216 ∧ (chsS v fs k l).2.1.size ≤ 1048576
  | k, [], _ => ⟨by show v.fs.length ≤ _; omega, by show sumF v.fs ≤ _; omega, hb⟩
  | k, x :: l, hx => by
    have h9 := hx x (List.mem_cons_self ..)
    unfold chsS
    split
    · split
      · have q1 := remS_le v.fs x_et
        have q2 := sumF_rem x_et v.fs
        refine ⟨by simp only; omega, by simp only; omega, h9.2⟩
      · have q1 := setS_len x_et x.tag v.fs
        have q2 := sumF_set x_et x.tag v.fs
        have q3 : x_et.size = 4 := rfl
        refine ⟨by simp only; omega, by simp only; omega, h9.2⟩
    · exact chs_bd v fs B hb h1 h2 (k + 1) l (fun y hy => hx y (List.mem_cons_of_mem _ hy))
section
variable {a : Ans} {v : Ver} {r : Rq}
theorem ver_ne (h : v.status ≠ 200) : verS a v r = { a with status := v.status, fs := (chS v r.fs).1, body := (chS v r.fs).2.1, variant := (chS v r.fs).2.2 } := by
  unfold verS; simp only; rw [if_pos (by simpa using h)]
theorem ver_304 (h : v.status = 200) (h2 : evF r.method r.fs (stS (chS v r.fs).1) = 2) : verS a v r = { a with status := 304, fs := kptS (chS v r.fs).1, body := ⟨#[]⟩, variant := (chS v r.fs).2.2 } := by
  unfold verS; simp only; rw [if_neg (by simp [h]), if_pos (by rw [h2]; rfl)]
theorem ver_412 (h : v.status = 200) (h2 : evF r.method r.fs (stS (chS v r.fs).1) = 3) : verS a v r = { a with status := 412, fs := [], body := ⟨#[]⟩, variant := (chS v r.fs).2.2 } := by
  unfold verS; simp only; rw [if_neg (by simp [h]), if_neg (by rw [h2]; decide), if_pos (by rw [h2]; rfl)]
theorem ver_part (h : v.status = 200) (h2 : evF r.method r.fs (stS (chS v r.fs).1) = 1) : verS a v r = partS { a with status := v.status, fs := (chS v r.fs).1, body := (chS v r.fs).2.1, variant := (chS v r.fs).2.2 } r (stS (chS v r.fs).1) := by
  unfold verS; simp only; rw [if_neg (by simp [h]), if_neg (by rw [h2]; decide), if_neg (by rw [h2]; decide)]
end
set_option maxHeartbeats 16000000 in
set_option maxRecDepth 100000 in
theorem or_version (Q : Nat → Prop) (pa : Nat) (t : Int) (a : Ans) (fs bd : Sl) (m : MV) (r : Rq) (rA : Option Addr) (rn rc : Nat) (w : World) (h : AnsAt w pa t a fs bd) (hm : m.At Q w) (hQ : Q pa) (hB : VerB m.ver)
    (hr : RS (fun i => i = pa) w 2 ⟨rA, rn, rc⟩ (fldCells r.fs)) (hrT : sumF r.fs + 2 * rn ≤ 1048576) (hg : Gl w) (hh : GlH w) (hp : GlP w) (hgp : ∀ w', Keeps (fun i => i = pa) w w' → Gl w' ∧ GlH w' ∧ GlP w') :
    Calls Tryz.prog 81 #[.pointer (some ⟨pa, 0, none⟩), .agg m.cells.toArray, .agg #[.string r.method, .string r.target, .slice rA rn rc]] w fun e w' => ∃ v, e = .returned v ∧
      (∃ fs' bd', AnsAt w' pa t (verS a m.ver r) fs' bd') ∧ Keeps (fun i => i = pa) w w' := by
  have hplt := h.blk.lt
  obtain ⟨hA0, hK0⟩ := h.putS m.status
  have hm0 := (hm.sub (Q' := fun i => i = pa) (fun i hi => by rw [show i = pa from hi]; exact hQ)).keep hK0 (fun i hi => .inl hi)
  have hr0 := hr.keep hK0 (fun i hi => .inl hi)
  obtain ⟨g1, g2, g3⟩ := hgp _ hK0
  have hfl : m.f.length ≤ 131072 := hB.fs.1
  have hvl : m.vars.length ≤ 8 := by have := hB.vars; rw [show m.ver.vars = m.vars.map (·.1) from rfl, List.length_map] at this; exact this
  have hve := fun x (hx : x ∈ m.vars) => hB.each x.1 (List.mem_map.2 ⟨x, hx, rfl⟩)
  have HC := Lib.hid (fun w' (hx : Ext (w.setCell ⟨pa, 1, none⟩ (.int .i64 m.status)) w') => or_chosen (fun i => i = pa) m rA rn rc r.fs w' (hm0.ext hx) (hr0.ext hx).rd (fun i hi => by rw [show i = pa from hi]; exact (hA0.ext hx).blk.lt) (by omega) (by have := hB.fs.2; show sumF m.ver.fs ≤ _; omega) (by omega) (fun x h2 => ⟨(hve x h2).1, (hve x h2).2.1, by have := (hve x h2).2.2.1; omega⟩) (by omega) (by omega) (g1.ext hx))
  have Hcb := Lib.hid (show (chS m.ver r.fs).1.length ≤ 131073 ∧ sumF (chS m.ver r.fs).1 ≤ 393216 ∧ (chS m.ver r.fs).2.1.size ≤ 1048576 from chs_bd m.ver r.fs 0 hB.body hB.fs.1 hB.fs.2 0 m.ver.vars (fun x hx => ⟨(hB.each x hx).2.2.1, (hB.each x hx).2.2.2⟩))
  have hbz := bszF r.fs
  have hbz2 : Bsz 1048576 r.fs := fun f hf => ⟨by have := (hbz f hf).1; omega, by have := (hbz f hf).2; omega⟩
  have HG := Lib.hid hgp
  have Hne := Lib.hid (@ver_ne a m.ver r); have H304 := Lib.hid (@ver_304 a m.ver r); have H412 := Lib.hid (@ver_412 a m.ver r); have Hpt := Lib.hid (@ver_part a m.ver r)
  have HEr := Lib.hid (fun st => (evF_range r.method r.fs st).1)
  have HEv := Lib.hid (fun w' st (hf : RdF w' rA rn r.fs) (hx : Keeps (fun i => i = pa) w w') => val_Evaluate r.method rA rn rc r.fs st w' hf (by omega) hbz2 (by omega) hrT (hgp _ hx).2.1)
  have HPt := Lib.hid (fun w' (a' : Ans) fs' bd' st (h1 : AnsAt w' pa t a' fs' bd') (hf : RdF w' rA rn r.fs) (h2 : a'.body.size ≤ 1048576) (h3 : a'.fs.length ≤ 1073741824) (h4 : Bsz 4611686018427387904 a'.fs) (hx : Keeps (fun i => i = pa) w w') => or_part pa t a' fs' bd' r rA rn rc st w' h1 hf (by omega) hrT h2 h3 h4 (hgp _ hx).1 (hgp _ hx).2.1 (hgp _ hx).2.2)
  obtain ⟨VA, hVA⟩ : ∃ VA, verS a m.ver r = VA := ⟨_, rfl⟩
  rw [hVA] at Hne H304 H412 Hpt ⊢
  rw [show m.ver.status = m.status from rfl] at Hne H304 H412 Hpt
  generalize chS m.ver r.fs = CH at *
  obtain ⟨cf, cb, cv⟩ := CH
  have hbk := h.blk
  have k1 : w.cell? ⟨pa, 1, none⟩ = some (.int .i64 a.status) := h.blk.cell 1
  have f1 : w.frozen? ⟨pa, 1, none⟩ = false := h.blk.frozen 1
  have HA0 := Lib.hid hA0; have HK0 := Lib.hid hK0; have HR0 := Lib.hid hr0
  clear hVA hA0 hm0 hr0 hm hr h hbk g1 g2 g3 hbz hbz2 hgp hg hh hp hB hfl hvl hve
  obtain ⟨me, ta, rfs⟩ := r
  obtain ⟨vaddr, vstatus, f, vbody, vars, ⟨vfA, vfn, vfc⟩, ⟨vbA, vbn, vbc⟩, ⟨vA, vn, vc⟩⟩ := m
  obtain ⟨fA, fn, fc⟩ := fs
  obtain ⟨bA, bn, bc⟩ := bd
  simp only [MV.cells, Sl.v] at *
  have hsz0 : (w.setCell ⟨pa, 1, none⟩ (.int .i64 vstatus)).heap.size = w.heap.size := World.size_setCell _ _ _
  have HX := Lib.hid ((Blk.new (w.setCell ⟨pa, 1, none⟩ (.int .i64 vstatus)) 36 #[.string vaddr, .int .i64 vstatus, .slice vfA vfn vfc, .slice vbA vbn vbc, .slice vA vn vc]).alloc (.cells #[.string me, .string ta, .slice rA rn rc] 42))
  have HY := Lib.hid (Blk.new ((w.setCell ⟨pa, 1, none⟩ (.int .i64 vstatus)).alloc (.cells #[.string vaddr, .int .i64 vstatus, .slice vfA vfn vfc, .slice vbA vbn vbc, .slice vA vn vc] 36)) 42 #[.string me, .string ta, .slice rA rn rc])
  have hsz1 : ((w.setCell ⟨pa, 1, none⟩ (.int .i64 vstatus)).alloc (.cells #[.string vaddr, .int .i64 vstatus, .slice vfA vfn vfc, .slice vbA vbn vbc, .slice vA vn vc] 36)).heap.size = w.heap.size + 1 := by simp [World.setCell]
  rw [hsz0] at HX
  rw [hsz1] at HY
  have HEb := Lib.hid (((Ext.refl (w.setCell ⟨pa, 1, none⟩ (.int .i64 vstatus))).alloc (.cells #[.string vaddr, .int .i64 vstatus, .slice vfA vfn vfc, .slice vbA vbn vbc, .slice vA vn vc] 36)).alloc (.cells #[.string me, .string ta, .slice rA rn rc] 42))
  go_enter Tryz.func81, Tryz.ntmps81
  go_upto_region 2 with fail
  clear k1 f1
  generalize (((w.setCell ⟨pa, 1, none⟩ (.int .i64 vstatus)).alloc (.cells #[.string vaddr, .int .i64 vstatus, .slice vfA vfn vfc, .slice vbA vbn vbc, .slice vA vn vc] 36)).alloc (.cells #[.string me, .string ta, .slice rA rn rc] 42)) = Wb at *
  have HS := Lib.hid (fun w' (hx : Keeps (fun i => i = pa) Wb w') => (⟨((HX.out.keep hx (by omega))).cell 0, ((HX.out.keep hx (by omega))).cell 1, ((HX.out.keep hx (by omega))).cell 2, ((HX.out.keep hx (by omega))).cell 3, ((HX.out.keep hx (by omega))).cell 4, ((HY.out.keep hx (by omega))).cell 0, ((HY.out.keep hx (by omega))).cell 1, ((HY.out.keep hx (by omega))).cell 2⟩ : w'.cell? ⟨w.heap.size, 0, none⟩ = some (.string vaddr) ∧ w'.cell? ⟨w.heap.size, 1, none⟩ = some (.int .i64 vstatus) ∧ w'.cell? ⟨w.heap.size, 2, none⟩ = some (.slice vfA vfn vfc) ∧ w'.cell? ⟨w.heap.size, 3, none⟩ = some (.slice vbA vbn vbc) ∧ w'.cell? ⟨w.heap.size, 4, none⟩ = some (.slice vA vn vc) ∧ w'.cell? ⟨w.heap.size + 1, 0, none⟩ = some (.string me) ∧ w'.cell? ⟨w.heap.size + 1, 1, none⟩ = some (.string ta) ∧ w'.cell? ⟨w.heap.size + 1, 2, none⟩ = some (.slice rA rn rc)))
  have HRx := Lib.hid (fun w' (hx : Keeps (fun i => i = pa) Wb w') => ((HR0.out.ext HEb.out).keep hx (fun i hi => .inl hi)).rd)
  obtain ⟨x0, x1, x2, x3, x4, y0, y1, y2⟩ := HS.out _ (Keeps.refl _ _)
  go_wp2_with fail
  refine (HC.out _ HEb.out).mono ?_; rintro e w2 ⟨⟨cA, cn, cc⟩, ⟨dA, dn, dc⟩, rfl, hc1, hc2, hb2⟩
  clear x0 x1 x2 x3 x4 y0 y1 y2
  have HA2 := Lib.hid ((HA0.out.ext HEb.out).ext hb2)
  have HZ3 := Lib.hid (HA2.out.putV hc1 hc2 (cv : Nat))
  simp only [Sl.v] at HZ3 ⊢
  have k7 : w2.cell? ⟨pa, 7, none⟩ = some (.slice fA fn fc) := HA2.out.blk.cell 7
  have k8 : w2.cell? ⟨pa, 8, none⟩ = some (.slice bA bn bc) := HA2.out.blk.cell 8
  have k3 : w2.cell? ⟨pa, 3, none⟩ = some (.int .i64 a.variant) := HA2.out.blk.cell 3
  have f7 : w2.frozen? ⟨pa, 7, none⟩ = false := HA2.out.blk.frozen 7
  have f8 : w2.frozen? ⟨pa, 8, none⟩ = false := HA2.out.blk.frozen 8
  have f3 : w2.frozen? ⟨pa, 3, none⟩ = false := HA2.out.blk.frozen 3
  go_upto_region 3 with fail
  have HA3 := Lib.hid HZ3.out.1
  have HK3 := Lib.hid ((HK0.out.trans (Keeps.of (HEb.out.trans hb2))).trans HZ3.out.2)
  have HKb := Lib.hid ((Keeps.of (S := fun i => i = pa) hb2).trans HZ3.out.2)
  clear k7 k8 k3 f7 f8 f3 hc1 hc2 hb2 HA2 HZ3
  generalize (((w2.setCell ⟨pa, 7, none⟩ (.slice cA cn cc)).setCell ⟨pa, 8, none⟩ (.slice dA dn dc)).setCell ⟨pa, 3, none⟩ (.int .i64 (cv : Nat))) = w3 at *
  obtain ⟨x0, x1, x2, x3, x4, y0, y1, y2⟩ := HS.out _ HKb.out
  by_cases h200 : vstatus = 200
  rotate_left
  · have HV := Lib.hid (Hne.out h200)
    have hq : (vstatus == 200) = false := by rw [beq_eq_false_iff_ne]; exact h200
    go_wp2_with fail
    (first | go_end0 | ((try simp only [Exit.inBlock, Exit.then]); refine bodyPost_ret (results_none rfl _ _ _) rfl ?_))
    exact ⟨_, rfl, ⟨_, _, by rw [HV.out]; exact HA3.out⟩, HK3.out⟩
  · have hq : (vstatus == 200) = true := by rw [beq_iff_eq]; exact h200
    have hcl := HA3.out.fs.rd.lenF
    have k7 : w3.cell? ⟨pa, 7, none⟩ = some (.slice cA cn cc) := HA3.out.blk.cell 7
    have hcb := Hcb.out
    (try simp only at hcl hcb)
    go_wp2_with fail
    refine (or_state cA cn cc cf w3 HA3.out.fs.rd (by omega) (by omega) (HG.out _ HK3.out).2.1).mono ?_; rintro e w4 ⟨rfl, hb4⟩
    clear x0 x1 x2 x3 x4 y0 y1 y2 k7
    have H304 := Lib.hid (fun h => H304.out h200 h); have H412 := Lib.hid (fun h => H412.out h200 h); have Hpt := Lib.hid (fun h => Hpt.out h200 h)
    (try simp only at H304 H412 Hpt)
    generalize stS cf = st at *
    obtain ⟨ex, ht, hm, tw, tt, md⟩ := st
    simp only [stArr]
    have HT := Lib.hid (Blk.new w4 187 #[.bool ex, .bool ht, .bool hm, .bool tw, .string tt, .int .i64 md])
    have hE5 := hb4.alloc (.cells #[.bool ex, .bool ht, .bool hm, .bool tw, .string tt, .int .i64 md] 187)
    have HKb5 := Lib.hid (HKb.out.trans (Keeps.of hE5)); have HK5 := Lib.hid (HK3.out.trans (Keeps.of hE5))
    obtain ⟨x0, x1, x2, x3, x4, y0, y1, y2⟩ := HS.out _ HKb5.out
    have z0 : (w4.alloc (.cells #[.bool ex, .bool ht, .bool hm, .bool tw, .string tt, .int .i64 md] 187)).cell? ⟨w4.heap.size, 0, none⟩ = some (.bool ex) := HT.out.cell 0
    have z1 : (w4.alloc (.cells #[.bool ex, .bool ht, .bool hm, .bool tw, .string tt, .int .i64 md] 187)).cell? ⟨w4.heap.size, 1, none⟩ = some (.bool ht) := HT.out.cell 1
    have z2 : (w4.alloc (.cells #[.bool ex, .bool ht, .bool hm, .bool tw, .string tt, .int .i64 md] 187)).cell? ⟨w4.heap.size, 2, none⟩ = some (.bool hm) := HT.out.cell 2
    have z3 : (w4.alloc (.cells #[.bool ex, .bool ht, .bool hm, .bool tw, .string tt, .int .i64 md] 187)).cell? ⟨w4.heap.size, 3, none⟩ = some (.bool tw) := HT.out.cell 3
    have z4 : (w4.alloc (.cells #[.bool ex, .bool ht, .bool hm, .bool tw, .string tt, .int .i64 md] 187)).cell? ⟨w4.heap.size, 4, none⟩ = some (.string tt) := HT.out.cell 4
    have z5 : (w4.alloc (.cells #[.bool ex, .bool ht, .bool hm, .bool tw, .string tt, .int .i64 md] 187)).cell? ⟨w4.heap.size, 5, none⟩ = some (.int .i64 md) := HT.out.cell 5
    go_wp2_with fail
    refine (HEv.out _ ⟨ex, ht, hm, tw, tt, md⟩ (HRx.out _ HKb5.out) HK5.out).mono ?_; rintro e w6 ⟨rfl, hb6⟩
    clear x0 x1 x2 x3 x4 y0 y1 y2 z0 z1 z2 z3 z4 z5
    have hE6 := hE5.trans hb6
    have HK6 := Lib.hid (HK5.out.trans (Keeps.of hb6)); have HKb6 := Lib.hid (HKb5.out.trans (Keeps.of hb6))
    have HA6 := Lib.hid (HA3.out.ext hE6)
    have hE := HEr.out ⟨ex, ht, hm, tw, tt, md⟩
    generalize evF me rfs ⟨ex, ht, hm, tw, tt, md⟩ = E at *
    have hplt6 : pa < w6.heap.size := HA6.out.blk.lt
    have k7 : w6.cell? ⟨pa, 7, none⟩ = some (.slice cA cn cc) := HA6.out.blk.cell 7
    rcases hE with rfl | rfl | rfl
    · have HV := Lib.hid (Hpt.out rfl)
      obtain ⟨x0, x1, x2, x3, x4, y0, y1, y2⟩ := HS.out _ HKb6.out
      have z0 : w6.cell? ⟨w4.heap.size, 0, none⟩ = some (.bool ex) := (HT.out.ext hb6).cell 0
      have z1 : w6.cell? ⟨w4.heap.size, 1, none⟩ = some (.bool ht) := (HT.out.ext hb6).cell 1
      have z2 : w6.cell? ⟨w4.heap.size, 2, none⟩ = some (.bool hm) := (HT.out.ext hb6).cell 2
      have z3 : w6.cell? ⟨w4.heap.size, 3, none⟩ = some (.bool tw) := (HT.out.ext hb6).cell 3
      have z4 : w6.cell? ⟨w4.heap.size, 4, none⟩ = some (.string tt) := (HT.out.ext hb6).cell 4
      have z5 : w6.cell? ⟨w4.heap.size, 5, none⟩ = some (.int .i64 md) := (HT.out.ext hb6).cell 5
      go_wp2_with fail
      have hbz := bszF cf
      refine (HPt.out w6 _ _ _ ⟨ex, ht, hm, tw, tt, md⟩ HA6.out (HRx.out _ HKb6.out) hcb.2.2 (by simp only; omega) (fun f hf => ⟨by have := (hbz f hf).1; omega, by have := (hbz f hf).2; omega⟩) HK6.out).mono ?_; rintro e w7 ⟨b, rfl, ⟨fs7, bd7, h7⟩, hk7⟩
      go_wp2_with fail
      (first | go_end0 | ((try simp only [Exit.inBlock, Exit.then]); refine bodyPost_ret (results_none rfl _ _ _) rfl ?_))
      exact ⟨_, rfl, ⟨_, _, by rw [HV.out]; exact h7⟩, HK6.out.trans hk7⟩
    · have HV := Lib.hid (H304.out rfl)
      go_wp2_with fail
      refine (or_kept cA cn cc cf w6 HA6.out.fs.rd (by omega)).mono ?_; rintro e w7 ⟨⟨kA, kn, kc⟩, rfl, hk7, hb7⟩
      have HA7 := Lib.hid (HA6.out.ext hb7)
      have HZ := Lib.hid (HA7.out.put3 (hk7.sub (Q' := fun i => i = pa) (fun i hi => by rw [show i = pa from hi]; exact hplt6)) (show RS _ _ 1 sl0 (bytC ⟨#[]⟩) from RS.nil _ _ _) 304)
      simp only [Sl.v, sl0] at HZ ⊢
      clear k7
      have k1 : w7.cell? ⟨pa, 1, none⟩ = some (.int .i64 vstatus) := HA7.out.blk.cell 1
      have f1 : w7.frozen? ⟨pa, 1, none⟩ = false := HA7.out.blk.frozen 1
      have k7 : w7.cell? ⟨pa, 7, none⟩ = some (.slice cA cn cc) := HA7.out.blk.cell 7
      have f7 : w7.frozen? ⟨pa, 7, none⟩ = false := HA7.out.blk.frozen 7
      have k8 : w7.cell? ⟨pa, 8, none⟩ = some (.slice dA dn dc) := HA7.out.blk.cell 8
      have f8 : w7.frozen? ⟨pa, 8, none⟩ = false := HA7.out.blk.frozen 8
      go_wp2_with fail
      (first | go_end0 | ((try simp only [Exit.inBlock, Exit.then]); refine bodyPost_ret (results_none rfl _ _ _) rfl ?_))
      exact ⟨_, rfl, ⟨_, _, by rw [HV.out]; exact HZ.out.1⟩, (HK6.out.trans (Keeps.of hb7)).trans HZ.out.2⟩
    · have HV := Lib.hid (H412.out rfl)
      have HZ := Lib.hid (HA6.out.put3 (show RS _ _ 2 sl0 (fldCells []) from RS.nil _ _ _) (show RS _ _ 1 sl0 (bytC ⟨#[]⟩) from RS.nil _ _ _) 412)
      simp only [Sl.v, sl0] at HZ
      clear k7
      have k1 : w6.cell? ⟨pa, 1, none⟩ = some (.int .i64 vstatus) := HA6.out.blk.cell 1
      have f1 : w6.frozen? ⟨pa, 1, none⟩ = false := HA6.out.blk.frozen 1
      have k7 : w6.cell? ⟨pa, 7, none⟩ = some (.slice cA cn cc) := HA6.out.blk.cell 7
      have f7 : w6.frozen? ⟨pa, 7, none⟩ = false := HA6.out.blk.frozen 7
      have k8 : w6.cell? ⟨pa, 8, none⟩ = some (.slice dA dn dc) := HA6.out.blk.cell 8
      have f8 : w6.frozen? ⟨pa, 8, none⟩ = false := HA6.out.blk.frozen 8
      go_wp2_with fail
      (first | go_end0 | ((try simp only [Exit.inBlock, Exit.then]); refine bodyPost_ret (results_none rfl _ _ _) rfl ?_))
      exact ⟨_, rfl, ⟨_, _, by rw [HV.out]; exact HZ.out.1⟩, HK6.out.trans HZ.out.2⟩
end Go.Proofs.YtmckbcbdnckngaaGreatDoor

namespace Go.Proofs.YtmckbcbdnckngaaGreatDoor
open Go.RowKit

theorem OrgP.keeps {w w' : World} {p : Nat} {S R Q : Nat → Prop} {o : Org} {M : OM} (h : OrgP w p R Q o M) (k : Keeps S w w') (hS : ∀ i, S i → ¬ R i ∧ Q i) : OrgP w' p R Q o M :=
  ⟨h.blk.keep k (fun hs => (hS p hs).1 h.rp), own_keepS h.vs k (fun b hb hs => (hS b hs).1 (h.rv b hb)), own_keepS h.br k (fun b hb hs => (hS b hs).1 (h.rb b hb)), own_keepS h.lg k (fun b hb hs => (hS b hs).1 (h.rl b hb)), h.ver,
    fun x hx => (h.mem x hx).keep k (fun i hi => .inl (hS i hi).2), h.rp, h.rv, h.rb, h.rl, fun b hr => Nat.lt_of_lt_of_le (h.low b hr) k.size, h.rq, h.few, h.bd⟩
theorem sl_inj {s s' : Sl} (h : s.v = s'.v) : s = s' := by
  cases s; cases s'
  simp only [Sl.v, Value.slice.injEq] at h
  obtain ⟨rfl, rfl, rfl⟩ := h
  rfl
theorem OrgP.brd {w : World} {p : Nat} {R Q : Nat → Prop} {o : Org} {M : OM} (h : OrgP w p R Q o M) : Rd w 2 M.br.A M.br.n (o.br.flatMap spnC) ∧ M.br.n = o.br.length := by
  obtain ⟨s, hs, hn, hr⟩ := RS.own h.br
  obtain rfl := sl_inj hs
  exact ⟨hr.rd, hn⟩
section
variable {o : Org} {t : Int} {r : Rq}
def getQ (r : Rq) : Bool := r.method.toList == [71, 69, 84]
def headQ (r : Rq) : Bool := r.method.toList == [72, 69, 65, 68]
theorem dec_503 (h : o.br.any (inSp t) = true) : decS55 o t r = { ans0 with status := 503 } := by
  unfold decS55; rw [if_pos (show (o.br.any fun b => decide (b.1 ≤ t) && decide (t < b.2)) = true from h)]
theorem dec_405 (h : o.br.any (inSp t) = false) (h1 : getQ r = false) (h2 : headQ r = false) : decS55 o t r = { ans0 with status := 405 } := by
  unfold getQ at h1; unfold headQ at h2
  unfold decS55; rw [if_neg (by rw [show (o.br.any fun b => decide (b.1 ≤ t) && decide (t < b.2)) = false from h]; simp), if_pos (by simp [h1, h2])]
theorem dec_go (h : o.br.any (inSp t) = false) (h1 : getQ r = true ∨ headQ r = true) : decS55 o t r = match allS r.fs x_ho with
    | [h] => match adPS h r.target with
      | none => { ans0 with status := 400 }
      | some a =>
        let text := ofL (adText a)
        let n := findS o.vs text t
        match o.vs[n - 1]? with
        | some p => if n = 0 then { ans0 with status := 404, addr := text, fs := brief } else verS { ans0 with addr := text, version := n } p.2 r
        | none => { ans0 with status := 404, addr := text, fs := brief }
    | _ => { ans0 with status := 400 } := by
  unfold getQ headQ at h1
  unfold decS55
  rw [if_neg (by rw [show (o.br.any fun b => decide (b.1 ≤ t) && decide (t < b.2)) = false from h]; simp), if_neg (by rcases h1 with h1 | h1 <;> simp [h1])]
  rfl
theorem dec_400a (h : o.br.any (inSp t) = false) (h1 : getQ r = true ∨ headQ r = true) (h2 : (allS r.fs x_ho).length ≠ 1) : decS55 o t r = { ans0 with status := 400 } := by
  rw [dec_go h h1]
  split
  · rename_i x hx; rw [hx] at h2; simp at h2
  · rfl
variable {hv : ByteArray}
theorem dec_400b (h : o.br.any (inSp t) = false) (h1 : getQ r = true ∨ headQ r = true) (h2 : allS r.fs x_ho = [hv]) (h3 : adP (bsL hv) (bsL r.target) = none) : decS55 o t r = { ans0 with status := 400 } := by
  rw [dec_go h h1, h2]; simp only
  rw [show adPS hv r.target = none from h3]
theorem dec_404 {a : Adr} (h : o.br.any (inSp t) = false) (h1 : getQ r = true ∨ headQ r = true) (h2 : allS r.fs x_ho = [hv]) (h3 : adP (bsL hv) (bsL r.target) = some a) (h4 : findS o.vs ⟨(adText a).toArray⟩ t = 0) :
    decS55 o t r = { ans0 with status := 404, addr := ⟨(adText a).toArray⟩, fs := brief } := by
  rw [dec_go h h1, h2]; simp only
  rw [show adPS hv r.target = some a from h3]; simp only
  rw [show findS o.vs (ofL (adText a)) t = 0 from h4]
  split
  · rw [if_pos rfl]; rfl
  · rfl
theorem dec_ver {a : Adr} {k : Nat} (h : o.br.any (inSp t) = false) (h1 : getQ r = true ∨ headQ r = true) (h2 : allS r.fs x_ho = [hv]) (h3 : adP (bsL hv) (bsL r.target) = some a) (h4 : findS o.vs ⟨(adText a).toArray⟩ t = k + 1) (hk : k < o.vs.length) :
    decS55 o t r = verS { ans0 with addr := ⟨(adText a).toArray⟩, version := (k : Int) + 1 } o.vs[k].2 r := by
  rw [dec_go h h1, h2]; simp only
  rw [show adPS hv r.target = some a from h3]; simp only
  rw [show findS o.vs (ofL (adText a)) t = k + 1 from h4, Nat.add_sub_cancel, List.getElem?_eq_getElem hk]
  simp only
  rw [if_neg (by omega)]; rfl
end
theorem fnd_le : ∀ (l : List (Int × Ver)) (text : ByteArray) (t : Int), findS l text t ≤ l.length
  | [], _, _ => Nat.le_refl _
  | p :: l, text, t => by
    have := fnd_le l text t
    show (if findS l text t = 0 then (if p.2.addr == text && decide (p.1 ≤ t) then 1 else 0) else findS l text t + 1) ≤ l.length + 1
    split
    · split <;> omega
    · omega
theorem AnsAt.putA {W : World} {pa : Nat} {t : Int} {a : Ans} {fs bd : Sl} (h : AnsAt W pa t a fs bd) (x : ByteArray) :
    AnsAt (W.setCell ⟨pa, 4, none⟩ (.string x)) pa t { a with addr := x } fs bd ∧ Keeps (fun i => i = pa) W (W.setCell ⟨pa, 4, none⟩ (.string x)) := by
  have hK := (Keeps.refl (fun i => i = pa) W).set_ (b := pa) rfl 4 (.string x)
  exact ⟨⟨h.blk.set_ 4 _, h.fs.keep hK (fun i hi => .inl hi), h.bd.keep hK (fun i hi => .inl hi)⟩, hK⟩
theorem AnsAt.putN {W : World} {pa : Nat} {t : Int} {a : Ans} {fs bd : Sl} (h : AnsAt W pa t a fs bd) (n : Int) :
    AnsAt (W.setCell ⟨pa, 2, none⟩ (.int .i64 n)) pa t { a with version := n } fs bd ∧ Keeps (fun i => i = pa) W (W.setCell ⟨pa, 2, none⟩ (.int .i64 n)) := by
  have hK := (Keeps.refl (fun i => i = pa) W).set_ (b := pa) rfl 2 (.int .i64 n)
  exact ⟨⟨h.blk.set_ 2 _, h.fs.keep hK (fun i hi => .inl hi), h.bd.keep hK (fun i hi => .inl hi)⟩, hK⟩
theorem AnsAt.putF {W : World} {pa : Nat} {t : Int} {a : Ans} {fs bd fs' : Sl} {F : List Fd} (h : AnsAt W pa t a fs bd) (hf : RS (fun i => i = pa) W 2 fs' (fldCells F)) (st : Int) :
    AnsAt ((W.setCell ⟨pa, 1, none⟩ (.int .i64 st)).setCell ⟨pa, 7, none⟩ fs'.v) pa t { a with status := st, fs := F } fs' bd ∧ Keeps (fun i => i = pa) W ((W.setCell ⟨pa, 1, none⟩ (.int .i64 st)).setCell ⟨pa, 7, none⟩ fs'.v) := by
  have hK := ((Keeps.refl (fun i => i = pa) W).set_ (b := pa) rfl 1 (.int .i64 st)).set_ (b := pa) rfl 7 fs'.v
  exact ⟨⟨(h.blk.set_ 1 _).set_ 7 _, hf.keep hK (fun i hi => .inl hi), h.bd.keep hK (fun i hi => .inl hi)⟩, hK⟩

set_option maxHeartbeats 32000000 in
set_option maxRecDepth 100000 in
theorem or_choose (Q R : Nat → Prop) (p : Nat) (o : Org) (M : OM) (pa : Nat) (t : Int) (r : Rq) (rA : Option Addr) (rn rc : Nat) (w : World) (hO : OrgP w p R Q o M) (hA : AnsAt w pa t ans0 sl0 sl0) (hpR : ¬ R pa) (hpQ : Q pa)
    (hr : RS (fun i => i = pa) w 2 ⟨rA, rn, rc⟩ (fldCells r.fs)) (hrT : sumF r.fs + 2 * rn ≤ 1048576) (htz : r.target.size ≤ 1048576) (hbr : o.br.length ≤ 1000000)
    (hgp : ∀ w', Keeps (fun i => i = pa) w w' → Gl w' ∧ GlH w' ∧ GlP w') :
    Calls Tryz.prog 44 #[.pointer (some ⟨p, 0, none⟩), .pointer (some ⟨pa, 0, none⟩), .agg #[.string r.method, .string r.target, .slice rA rn rc]] w fun e w' => ∃ v, e = .returned v ∧
      (∃ fs' bd', AnsAt w' pa t (decS55 o t r) fs' bd') ∧ Keeps (fun i => i = pa) w w' := by
  have hS : ∀ i, i = pa → ¬ R i ∧ Q i := fun i hi => by rw [hi]; exact ⟨hpR, hpQ⟩
  have HO := Lib.hid (fun w' (hx : Keeps (fun i => i = pa) w w') => hO.keeps hx hS)
  have hbz := bszF r.fs
  have hbz2 : Bsz 1048576 r.fs := fun f hf => ⟨by have := (hbz f hf).1; omega, by have := (hbz f hf).2; omega⟩
  have HRx := Lib.hid (fun w' (hx : Keeps (fun i => i = pa) w w') => hr.keep hx (fun i hi => .inl hi))
  have HAll := Lib.hid (fun w' (hx : Keeps (fun i => i = pa) w w') => field_All rA rn rc r.fs x_ho w' (hr.keep hx (fun i hi => .inl hi)).rd (by omega) (by decide) (fun f hf => by have := (hbz2 f hf).1; omega))
  have Hlen := Lib.hid (fun v (hv : v ∈ allS r.fs x_ho) => show v.size ≤ 1048576 from by
    unfold allS at hv
    obtain ⟨f, hf, rfl⟩ := List.mem_map.1 hv
    exact (hbz2 f (List.mem_filter.1 hf).1).2)
  have HPr := Lib.hid (fun w' hv (hx : Keeps (fun i => i = pa) w w') (hz : hv.size ≤ 1048576) => adr_Parse hv r.target w' hz htz (hgp _ hx).1)
  have HFm := Lib.hid (fun w' a hok h1 h2 (hx : Keeps (fun i => i = pa) w w') => adr_Format a w' hok h1 h2 (hgp _ hx).1)
  have HFd := Lib.hid (fun w' text (hx : Keeps (fun i => i = pa) w w') => or_find Q R p o M text t w' (hO.keeps hx hS))
  have HAn := Lib.hid (fun w' B (hx : Keeps (fun i => i = pa) w w') (hB : w'.cell? ⟨B, 0, none⟩ = some (.int .i64 t)) => spI_any M.br.A M.br.n M.br.c o.br (inSp t) B w' (hO.keeps hx hS).brd.1 (by have := hO.brd.2; omega) (fun x _ W hW => or_choose1 x t B W (hW.cell hB)))
  have HVe := Lib.hid (fun w' a' fs' bd' (m : MV) (h1 : AnsAt w' pa t a' fs' bd') (h2 : m.At Q w') (h3 : VerB m.ver) (hx : Keeps (fun i => i = pa) w w') => or_version Q pa t a' fs' bd' m r rA rn rc w' h1 h2 hpQ h3 (hr.keep hx (fun i hi => .inl hi)) hrT (hgp _ hx).1 (hgp _ hx).2.1 (hgp _ hx).2.2 (fun w2 hy => hgp _ (hx.trans hy)))
  have D503 := Lib.hid (@dec_503 o t r); have D405 := Lib.hid (@dec_405 o t r); have D400a := Lib.hid (@dec_400a o t r); have D400b := Lib.hid (fun hv => @dec_400b o t r hv); have D404 := Lib.hid (fun hv a => @dec_404 o t r hv a); have Dver := Lib.hid (fun hv a k => @dec_ver o t r hv a k)
  obtain ⟨DA, hDA⟩ : ∃ DA, decS55 o t r = DA := ⟨_, rfl⟩
  rw [hDA] at D503 D405 D400a D400b D404 Dver ⊢
  have HA := Lib.hid hA
  have hplt := hA.blk.lt
  have Hbd := Lib.hid hO.bd
  have HN := Lib.hid hO.vsn
  have Hfl := Lib.hid (fun text => fnd_le o.vs text t)
  have hfew := hO.few
  generalize o.br.any (inSp t) = an at *
  obtain ⟨me, ta, rfs⟩ := r
  unfold getQ headQ at D405 D400a D400b D404 Dver
  obtain ⟨⟨vsA, vsn, vsc⟩, ⟨brA, brn, brc⟩, lg, mv⟩ := M
  have HP := Lib.hid (fun w' (hx : Keeps (fun i => i = pa) w w') => (⟨(HO.out _ hx).blk.cell 0, (HO.out _ hx).blk.cell 1⟩ : w'.cell? ⟨p, 0, none⟩ = some (.slice vsA vsn vsc) ∧ w'.cell? ⟨p, 1, none⟩ = some (.slice brA brn brc)))
  clear hDA hO hA hr hbz hbz2 hgp hS
  simp only [Sl.v] at *
  have HX := Lib.hid ((Blk.new w 42 #[.string me, .string ta, .slice rA rn rc]).alloc (.cells #[.int .i64 t] 3))
  have HY := Lib.hid (Blk.new (w.alloc (.cells #[.string me, .string ta, .slice rA rn rc] 42)) 3 #[.int .i64 t])
  have hsz1 : (w.alloc (.cells #[.string me, .string ta, .slice rA rn rc] 42)).heap.size = w.heap.size + 1 := by simp
  rw [hsz1] at HY
  have HKb := Lib.hid (Keeps.of (S := fun i => i = pa) (((Ext.refl w).alloc (.cells #[.string me, .string ta, .slice rA rn rc] 42)).alloc (.cells #[.int .i64 t] 3)))
  have a0 : w.cell? ⟨pa, 0, none⟩ = some (.int .i64 t) := HA.out.blk.cell 0
  go_enter Tryz.func44, Tryz.ntmps44
  go_upto_region 2 with fail
  (try rw [hsz1])
  clear a0 hsz1
  have HEb := Lib.hid (((Ext.refl w).alloc (.cells #[.string me, .string ta, .slice rA rn rc] 42)).alloc (.cells #[.int .i64 t] 3))
  generalize ((w.alloc (.cells #[.string me, .string ta, .slice rA rn rc] 42)).alloc (.cells #[.int .i64 t] 3)) = Wb at *
  have HS := Lib.hid (fun w' (hx : Keeps (fun i => i = pa) Wb w') => (⟨(HX.out.keep hx (by omega)).cell 0, (HX.out.keep hx (by omega)).cell 1, (HX.out.keep hx (by omega)).cell 2, (HY.out.keep hx (by omega)).cell 0⟩ : w'.cell? ⟨w.heap.size, 0, none⟩ = some (.string me) ∧ w'.cell? ⟨w.heap.size, 1, none⟩ = some (.string ta) ∧ w'.cell? ⟨w.heap.size, 2, none⟩ = some (.slice rA rn rc) ∧ w'.cell? ⟨w.heap.size + 1, 0, none⟩ = some (.int .i64 t)))
  obtain ⟨p0, p1⟩ := HP.out _ HKb.out
  go_wp2_with fail
  refine (HAn.out _ (w.heap.size + 1) HKb.out (HS.out _ (Keeps.refl _ _)).2.2.2).mono ?_; rintro e w1 ⟨rfl, hb1⟩
  clear p0 p1
  have HE1 := Lib.hid (HEb.out.trans hb1)
  have K1 := Lib.hid (Keeps.of (S := fun i => i = pa) HE1.out); have Kb1 := Lib.hid (Keeps.of (S := fun i => i = pa) hb1)
  have HA1 := Lib.hid (HA.out.ext HE1.out)
  cases an with
  | true =>
    have k1 : w1.cell? ⟨pa, 1, none⟩ = some (.int .i64 0) := HA1.out.blk.cell 1
    have f1 : w1.frozen? ⟨pa, 1, none⟩ = false := HA1.out.blk.frozen 1
    have HZ := Lib.hid (HA1.out.putS 503)
    go_wp2_with fail
    (first | go_end0 | ((try simp only [Exit.inBlock, Exit.then]); refine bodyPost_ret (results_none rfl _ _ _) rfl ?_))
    first | exact ⟨_, rfl, ⟨sl0, sl0, by rw [D503.out (by trivial)]; exact HZ.out.1⟩, K1.out.trans HZ.out.2⟩ | exact ⟨rfl, ⟨sl0, sl0, by rw [D503.out (by trivial)]; exact HZ.out.1⟩, K1.out.trans HZ.out.2⟩
  | false =>
    go_upto_region 4 with fail
    obtain ⟨x0, x1, x2, y0⟩ := HS.out _ Kb1.out
    go_cut [34] (fun x wx => x = .bool (!(me.toList == [71, 69, 84]) && !(me.toList == [72, 69, 65, 68])) ∧ w1 = wx)
    case first =>
      cases q1 : (me.toList == [71, 69, 84])
      · cases q2 : (me.toList == [72, 69, 65, 68])
        · go_wp2_with fail
          go_meet
          exact ⟨by simp [q1, q2], rfl⟩
        · go_wp2_with fail
          go_meet
          exact ⟨by simp [q1, q2], rfl⟩
      · go_wp2_with fail
        go_meet
        exact ⟨by simp [q1], rfl⟩
    case rest =>
    obtain ⟨rfl, rfl⟩ := hcut
    by_cases hgh : (me.toList == [71, 69, 84]) = true ∨ (me.toList == [72, 69, 65, 68]) = true
    rotate_left
    · have q1 : (me.toList == [71, 69, 84]) = false := by cases h : (me.toList == [71, 69, 84]) with | false => rfl | true => exact absurd (.inl h) hgh
      have q2 : (me.toList == [72, 69, 65, 68]) = false := by cases h : (me.toList == [72, 69, 65, 68]) with | false => rfl | true => exact absurd (.inr h) hgh
      rw [q1, q2]
      clear x0 x1 x2 y0
      have k1 : w1.cell? ⟨pa, 1, none⟩ = some (.int .i64 0) := HA1.out.blk.cell 1
      have f1 : w1.frozen? ⟨pa, 1, none⟩ = false := HA1.out.blk.frozen 1
      have HZ := Lib.hid (HA1.out.putS 405)
      go_wp2_with fail
      (first | go_end0 | ((try simp only [Exit.inBlock, Exit.then]); refine bodyPost_ret (results_none rfl _ _ _) rfl ?_))
      first | exact ⟨_, rfl, ⟨sl0, sl0, by rw [D405.out (by trivial) q1 q2]; exact HZ.out.1⟩, K1.out.trans HZ.out.2⟩ | exact ⟨rfl, ⟨sl0, sl0, by rw [D405.out (by trivial) q1 q2]; exact HZ.out.1⟩, K1.out.trans HZ.out.2⟩
    have hg0 : (!(me.toList == [71, 69, 84]) && !(me.toList == [72, 69, 65, 68])) = false := by rcases hgh with h | h <;> simp [h]
    rw [hg0]
    have D400a := Lib.hid (D400a.out (by trivial) hgh); have D400b := Lib.hid (fun hv => D400b.out hv (by trivial) hgh); have D404 := Lib.hid (fun hv a => D404.out hv a (by trivial) hgh); have Dver := Lib.hid (fun hv a k => Dver.out hv a k (by trivial) hgh)
    clear hg0 hgh
    go_wp2_with fail
    refine (HAll.out _ K1.out).mono ?_; rintro e w2 ⟨lA, ln, lc, rfl, hls, hlc, hb2⟩
    clear x0 x1 x2 y0
    have HE2 := Lib.hid (HE1.out.trans hb2); have K2 := Lib.hid (Keeps.of (S := fun i => i = pa) HE2.out); have Kb2 := Lib.hid (Kb1.out.trans (Keeps.of hb2)); have HA2 := Lib.hid (HA.out.ext HE2.out)
    have hll := hls.lenS
    by_cases hl1 : ln = 1
    rotate_left
    · have hq1 : ((ln : Int) == 1) = false := by rw [beq_eq_false_iff_ne]; omega
      have k1 : w2.cell? ⟨pa, 1, none⟩ = some (.int .i64 0) := HA2.out.blk.cell 1
      have f1 : w2.frozen? ⟨pa, 1, none⟩ = false := HA2.out.blk.frozen 1
      have HZ := Lib.hid (HA2.out.putS 400)
      go_wp2_with fail
      (first | go_end0 | ((try simp only [Exit.inBlock, Exit.then]); refine bodyPost_ret (results_none rfl _ _ _) rfl ?_))
      first | exact ⟨_, rfl, ⟨sl0, sl0, by rw [D400a.out (by (try simp only at hll ⊢); omega)]; exact HZ.out.1⟩, K2.out.trans HZ.out.2⟩ | exact ⟨rfl, ⟨sl0, sl0, by rw [D400a.out (by (try simp only at hll ⊢); omega)]; exact HZ.out.1⟩, K2.out.trans HZ.out.2⟩
    subst hl1
    obtain ⟨hv, hhv⟩ : ∃ hv, allS rfs x_ho = [hv] := by
      match hm : allS rfs x_ho, hll with
      | [v], _ => exact ⟨v, rfl⟩
    have Hv := Lib.hid hhv
    have hvz := Hlen.out hv (by rw [Hv.out]; simp)
    rw [Hv.out] at hls
    obtain ⟨lb, lo, hlA, d0⟩ := hls.atS (k := 0) (by simp)
    subst hlA
    rw [Nat.add_zero] at d0
    replace d0 : w2.cell? ⟨lb, lo, none⟩ = some (.string hv) := d0
    have HD := Lib.hid (fun w' (hx : Ext w2 w') => hx.cell d0)
    have D400b := Lib.hid (D400b.out hv Hv.out); have D404 := Lib.hid (fun a => D404.out hv a Hv.out); have Dver := Lib.hid (fun a k => Dver.out hv a k Hv.out)
    have HPr := Lib.hid (fun w' (hx : Keeps (fun i => i = pa) w w') => HPr.out w' hv hx hvz)
    have Hsz := Lib.hid (fun a h => @ad_sizes (bsL hv) (bsL ta) a h); have Hag := Lib.hid (fun a (h : adP (bsL hv) (bsL ta) = some a) => ad_again h)
    (try simp only at D400b D404 Dver HPr)
    generalize hP : adP (bsL hv) (bsL ta) = P at *
    clear hP
    obtain ⟨q1, q2, q3, q4, hq⟩ : ∃ q1 q2 q3 q4, adrA P = #[.string q1, .string q2, .string q3, .bool q4] := by
      cases P with
      | none => exact ⟨_, _, _, _, rfl⟩
      | some a => exact ⟨_, _, _, _, rfl⟩
    rw [hq] at HPr
    have Hq := Lib.hid hq
    clear hq d0 hls hll hhv hvz
    go_wp2_with fail
    have hE := (Ext.refl w2).drew
    refine wp_region_U (S := (fun w' => w'.cell? ⟨lb, lo, none⟩ = some (.string hv) ∧ w'.cell? ⟨w.heap.size, 1, none⟩ = some (.string ta))) 10 (by kernel_rfl) ?_ (fun hHeld => ?_)
    · (try dsimp only); exact ⟨HD.out _ hE, (HS.out _ (Kb2.out.trans (Keeps.of hE))).2.1⟩
    refine wpAnyU_takeW (i := 0) (oi := { dst := some 50, op := _, type := _, pos := _, after := _, guard := _ }) (v := ?_) (by kernel_rfl) rfl (by kernel_rfl) (by kernel_rfl) (by kernel_rfl) (fun _ _ _ h => h) (Or.inl ⟨by rfl, ?_⟩) (by assumption) ?_
    rotate_left
    · (intro w hSw; (try dsimp only at hSw); go_simp; (try with_reducible rfl))
    (try simp only [Act.put, List.setIfInBounds_toArray, List.set_cons_zero, List.set_cons_succ])
    refine wpAnyU_takeW (i := 1) (oi := { dst := some 51, op := _, type := _, pos := _, after := _, guard := _ }) (v := ?_) (by kernel_rfl) rfl (by kernel_rfl) (by kernel_rfl) (by kernel_rfl) (fun _ _ _ h => h) (Or.inl ⟨by rfl, ?_⟩) (by assumption) ?_
    rotate_left
    · (intro w hSw; (try dsimp only at hSw); go_simp; (try with_reducible rfl))
    (try simp only [Act.put, List.setIfInBounds_toArray, List.set_cons_zero, List.set_cons_succ])
    refine wpAnyU_take (i := 2) (oi := { dst := some 52, op := _, type := _, pos := _, after := _, guard := _ }) (v := ?_) [5, 6, 7, 8, 10, 11] (by kernel_rfl) (by kernel_rfl) (by kernel_rfl) (by kernel_rfl) rfl (by kernel_rfl) (by kernel_rfl) (by kernel_rfl) (fun _ _ _ h => h) (Or.inl ⟨by rfl, ?_⟩) (by assumption) ?_
    rotate_left
    · (intro w hSw; (try dsimp only at hSw); go_simp; (try with_reducible rfl))
    (try simp only [Act.put, List.setIfInBounds_toArray, List.set_cons_zero, List.set_cons_succ])
    refine wpAnyU_takeW (i := 3) (oi := { dst := some 53, op := _, type := _, pos := _, after := _, guard := _ }) (v := ?_) (by kernel_rfl) rfl (by kernel_rfl) (by kernel_rfl) (by kernel_rfl) (fun _ _ _ h => h) (Or.inl ⟨by rfl, ?_⟩) (by assumption) ?_
    rotate_left
    · (intro w hSw; (try dsimp only at hSw); go_simp; (try with_reducible rfl))
    (try simp only [Act.put, List.setIfInBounds_toArray, List.set_cons_zero, List.set_cons_succ])
    refine wpAnyU_take (i := 4) (oi := { dst := some 54, op := _, type := _, pos := _, after := _, guard := _ }) (v := ?_) [5, 6, 7, 8, 10, 11] (by kernel_rfl) (by kernel_rfl) (by kernel_rfl) (by kernel_rfl) rfl (by kernel_rfl) (by kernel_rfl) (by kernel_rfl) (fun _ _ _ h => h) (Or.inl ⟨by rfl, ?_⟩) (by assumption) ?_
    rotate_left
    · (intro w hSw; (try dsimp only at hSw); go_simp; (try with_reducible rfl))
    (try simp only [Act.put, List.setIfInBounds_toArray, List.set_cons_zero, List.set_cons_succ])
    refine wpAnyU_ready (rs := [5, 9]) (by kernel_rfl) (by simp) ?_
    refine AllReadyU.cons (o := { dst := some 55, op := _, type := _, pos := _, after := _, guard := _ }) rfl (fun K hK => ?_) (AllReadyU.cons (o := { dst := some 8, op := _, type := _, pos := _, after := _, guard := _ }) rfl (fun K hK => ?_) AllReadyU.nil)
    · go_simp
      refine (HPr.out _ (Keeps.of (HE2.out.trans hE))).mono ?_; rintro e w3 ⟨⟨n3, rfl, hn3, hi3⟩, hb3⟩; replace hE := hE.trans hb3
      try go_wp2_with fail
      refine hK.out _ _ ?_ (fun hHeld => ?_)
      · (try dsimp only); exact ⟨HD.out _ hE, (HS.out _ (Kb2.out.trans (Keeps.of hE))).2.1⟩
      clear hK K
      (try simp only [Act.put, List.setIfInBounds_toArray, List.set_cons_zero, List.set_cons_succ])
      refine wpAnyU_takeW (i := 6) (oi := { dst := some 49, op := _, type := _, pos := _, after := _, guard := _ }) (v := ?_) (by kernel_rfl) rfl (by kernel_rfl) (by kernel_rfl) (by kernel_rfl) (fun _ _ _ h => h) (Or.inl ⟨by rfl, ?_⟩) (by assumption) ?_
      rotate_left
      · (intro w hSw; (try dsimp only at hSw); go_simp; (try with_reducible rfl))
      (try simp only [Act.put, List.setIfInBounds_toArray, List.set_cons_zero, List.set_cons_succ])
      refine wpAnyU_takeW (i := 7) (oi := { dst := some 56, op := _, type := _, pos := _, after := _, guard := _ }) (v := ?_) (by kernel_rfl) rfl (by kernel_rfl) (by kernel_rfl) (by kernel_rfl) (fun _ _ _ h => h) (Or.inl ⟨by rfl, ?_⟩) (by assumption) ?_
      rotate_left
      · (intro w hSw; (try dsimp only at hSw); go_simp; (try with_reducible rfl))
      (try simp only [Act.put, List.setIfInBounds_toArray, List.set_cons_zero, List.set_cons_succ])
      refine wpAnyU_takeW (i := 8) (oi := { dst := some 57, op := _, type := _, pos := _, after := _, guard := _ }) (v := ?_) (by kernel_rfl) rfl (by kernel_rfl) (by kernel_rfl) (by kernel_rfl) (fun _ _ _ h => h) (Or.inl ⟨by rfl, ?_⟩) (by assumption) ?_
      rotate_left
      · (intro w hSw; (try dsimp only at hSw); go_simp; (try with_reducible rfl))
      (try simp only [Act.put, List.setIfInBounds_toArray, List.set_cons_zero, List.set_cons_succ])
      refine wpAnyU_ready (rs := [9]) (by kernel_rfl) (by simp) ?_
      refine AllReadyU.cons (o := { dst := some 8, op := _, type := _, pos := _, after := _, guard := _ }) rfl (fun K hK => ?_) AllReadyU.nil
      go_simp
      try go_wp2_with fail
      refine hK.out _ _ ?_ (fun hHeld => ?_)
      · (try dsimp only); exact ⟨HD.out _ (hE.alloc _), (HS.out _ (Kb2.out.trans (Keeps.of (hE.alloc _)))).2.1⟩
      clear hK K
      (try simp only [Act.put, List.setIfInBounds_toArray, List.set_cons_zero, List.set_cons_succ])
      refine wpAnyU_ready (rs := [10]) (by kernel_rfl) (by simp) ?_
      refine AllReadyU.stop (o := { dst := none, op := _, type := _, pos := _, after := _, guard := _ }) rfl (by kernel_rfl) (fun K hK => ?_) AllReadyU.nil
      go_simp
      try go_wp2_with fail
      refine hK.out _ _ ?_ (fun hHeld => ?_)
      · (try dsimp only); (try trivial)
      clear hK K
      (try simp only [Act.put, List.setIfInBounds_toArray, List.set_cons_zero, List.set_cons_succ])
      refine wpAnyH_take (i := 11) (oi := { dst := some 9, op := _, type := _, pos := _, after := _, guard := _ }) (v := ?_) rfl (by kernel_rfl) (by kernel_rfl) (by kernel_rfl) (fun _ _ _ h => h) (Or.inl ⟨by rfl, ?_⟩) (by assumption) ?_
      rotate_left
      · (intro w hSw; (try dsimp only at hSw); go_simp; (try with_reducible rfl))
      (try simp only [Act.put, List.setIfInBounds_toArray, List.set_cons_zero, List.set_cons_succ])
      refine wpAnyH_done (by kernel_rfl) ?_ _
      have HX4 := Lib.hid (Blk.new w3 123 #[.string q1, .string q2, .string q3, .bool q4])
      replace hE := hE.alloc (.cells #[.string q1, .string q2, .string q3, .bool q4] 123)
      generalize w3.alloc (.cells #[.string q1, .string q2, .string q3, .bool q4] 123) = wx at *
      generalize w3.heap.size = bx at *
      have HEx := Lib.hid (HE2.out.trans hE); have Kx := Lib.hid (Keeps.of (S := fun i => i = pa) HEx.out); have Kbx := Lib.hid (Kb2.out.trans (Keeps.of hE)); have HAx := Lib.hid (HA.out.ext HEx.out)
      rcases errV_eq0 n3 with ⟨h0, h1⟩ | ⟨h0, h1⟩
      rotate_left
      · rw [h1]
        have hPn : P = none := by cases P with | none => rfl | some a => exact absurd (hi3.2 rfl) h0
        have k1 : wx.cell? ⟨pa, 1, none⟩ = some (.int .i64 0) := HAx.out.blk.cell 1
        have f1 : wx.frozen? ⟨pa, 1, none⟩ = false := HAx.out.blk.frozen 1
        have HZ := Lib.hid (HAx.out.putS 400)
        go_wp2_with fail
        (first | go_end0 | ((try simp only [Exit.inBlock, Exit.then]); refine bodyPost_ret (results_none rfl _ _ _) rfl ?_))
        first | exact ⟨_, rfl, ⟨sl0, sl0, by rw [D400b.out hPn]; exact HZ.out.1⟩, Kx.out.trans HZ.out.2⟩ | exact ⟨rfl, ⟨sl0, sl0, by rw [D400b.out hPn]; exact HZ.out.1⟩, Kx.out.trans HZ.out.2⟩
      · rw [h1]
        obtain ⟨a, ha⟩ := Option.isSome_iff_exists.1 (hi3.1 h0)
        obtain ⟨e1, e2, e3, e4⟩ := adr_q (ha ▸ Hq.out)
        have hs4 := Hsz.out a ha
        have hok := Hag.out a ha
        subst e1; subst e2; subst e3; subst e4
        have hXq := HX4.out
        have u0 : wx.cell? ⟨bx, 0, none⟩ = some (.string ⟨a.host.toArray⟩) := hXq.cell 0
        have u1 : wx.cell? ⟨bx, 1, none⟩ = some (.string ⟨a.path.toArray⟩) := hXq.cell 1
        have u2 : wx.cell? ⟨bx, 2, none⟩ = some (.string ⟨a.query.toArray⟩) := hXq.cell 2
        have u3 : wx.cell? ⟨bx, 3, none⟩ = some (.bool a.has) := hXq.cell 3
        clear hXq
        have HFm := Lib.hid (HFm.out wx a hok (by omega) (by omega) Kx.out)
        have D404 := Lib.hid (D404.out a ha); have Dver := Lib.hid (fun k => Dver.out a k ha)
        generalize (⟨(adText a).toArray⟩ : ByteArray) = T at *
        clear hok hs4
        go_wp2_with fail
        refine HFm.out.mono ?_; rintro e w5 ⟨rfl, hb5⟩
        clear u0 u1 u2 u3
        have HA5 := Lib.hid (HAx.out.ext hb5)
        have k4 : w5.cell? ⟨pa, 4, none⟩ = some (.string ⟨#[]⟩) := HA5.out.blk.cell 4
        have f4 : w5.frozen? ⟨pa, 4, none⟩ = false := HA5.out.blk.frozen 4
        have HZ4 := Lib.hid (HA5.out.putA T)
        go_upto_region 16 with fail
        have K6 := Lib.hid ((Kx.out.trans (Keeps.of hb5)).trans HZ4.out.2); have Kb6 := Lib.hid ((Kbx.out.trans (Keeps.of hb5)).trans HZ4.out.2); have HA6 := Lib.hid HZ4.out.1
        clear k4 f4 HZ4 HA5
        generalize (w5.setCell ⟨pa, 4, none⟩ (.string T)) = w6 at *
        obtain ⟨x0, x1, x2, y0⟩ := HS.out _ Kb6.out
        go_wp2_with fail
        refine (HFd.out _ T K6.out).mono ?_; rintro e w7 ⟨rfl, hb7⟩
        clear x0 x1 x2 y0
        have hfl := Hfl.out T
        have K7 := Lib.hid (K6.out.trans (Keeps.of hb7)); have Kb7 := Lib.hid (Kb6.out.trans (Keeps.of hb7)); have HA7 := Lib.hid (HA6.out.ext hb7)
        generalize findS o.vs T t = fn at *
        cases fn with
        | zero =>
          have DD := Lib.hid (D404.out (by trivial))
          go_wp2_with fail
          refine (or_brief _).mono ?_; rintro e w8 ⟨⟨bA2, bn2, bc2⟩, rfl, hbn8, hbr8, hb8⟩
          change bn2 = 1 at hbn8
          subst hbn8
          have HA8 := Lib.hid (HA7.out.ext hb8)
          have hpw : pa < w7.heap.size := HA7.out.blk.lt
          have HZ := Lib.hid (HA8.out.putF (hbr8.sub (Q' := fun i => i = pa) (fun i hi => by rw [show i = pa from hi]; exact hpw)) 404)
          simp only [Sl.v] at HZ ⊢
          have k1 : w8.cell? ⟨pa, 1, none⟩ = some (.int .i64 0) := HA8.out.blk.cell 1
          have f1 : w8.frozen? ⟨pa, 1, none⟩ = false := HA8.out.blk.frozen 1
          have k7 : w8.cell? ⟨pa, 7, none⟩ = some (.slice none 0 0) := HA8.out.blk.cell 7
          have f7 : w8.frozen? ⟨pa, 7, none⟩ = false := HA8.out.blk.frozen 7
          go_wp2_with fail
          (first | go_end0 | ((try simp only [Exit.inBlock, Exit.then]); refine bodyPost_ret (results_none rfl _ _ _) rfl ?_))
          first | exact ⟨_, rfl, ⟨_, _, by rw [DD.out]; exact HZ.out.1⟩, (K7.out.trans (Keeps.of hb8)).trans HZ.out.2⟩ | exact ⟨rfl, ⟨_, _, by rw [DD.out]; exact HZ.out.1⟩, (K7.out.trans (Keeps.of hb8)).trans HZ.out.2⟩
        | succ k =>
          have hkv : k < o.vs.length := by omega
          have DD := Lib.hid (Dver.out k (by trivial) hkv)
          have hk0 : ((((k + 1 : Nat) : Int)) == 0) = false := by rw [beq_eq_false_iff_ne]; omega
          have hk00 : (((k : Int) + 1) == 0) = false := by rw [beq_eq_false_iff_ne]; omega
          have k2 : w7.cell? ⟨pa, 2, none⟩ = some (.int .i64 0) := HA7.out.blk.cell 2
          have f2 : w7.frozen? ⟨pa, 2, none⟩ = false := HA7.out.blk.frozen 2
          have HZ := Lib.hid (HA7.out.putN ((k : Int) + 1))
          go_upto_region 20 with fail
          have K9 := Lib.hid (K7.out.trans HZ.out.2); have Kb9 := Lib.hid (Kb7.out.trans HZ.out.2); have HA9 := Lib.hid HZ.out.1
          clear k2 f2 HZ
          generalize (w7.setCell ⟨pa, 2, none⟩ (.int .i64 ((k : Int) + 1))) = w9 at *
          have hkm : k < mv.length := by have h1 : mv.length = o.vs.length := HN.out.2; omega
          have hvn : vsn = o.vs.length := HN.out.1
          obtain ⟨g, hA, c0, c1, c2, c3, c4, c5⟩ := (HO.out _ K9.out).at_ hkm
          have hvk := (HO.out _ K9.out).vs_at hkv hkm
          have hmem := (HO.out _ K9.out).mem _ (List.getElem_mem hkm)
          have hbd := (Hbd.out _ (List.getElem_mem hkv)).1
          rw [hvk] at hbd DD
          (try simp only at hA hbd DD c0 c1 c2 c3 c4 c5)
          subst hA
          generalize mv[k] = x at *
          obtain ⟨at_, vaddr, vstatus, f, vbody, vars, ⟨vfA, vfn, vfc⟩, ⟨vbA, vbn, vbc⟩, ⟨vA, vn, vc⟩⟩ := x
          simp only [Sl.v] at c0 c1 c2 c3 c4 c5 hmem hbd DD
          have HS20 := Lib.hid (fun w' (hx : Ext w9 w') => (⟨(HP.out _ (K9.out.trans (Keeps.of hx))).1, hx.cell c1, hx.cell c2, hx.cell c3, hx.cell c4, hx.cell c5, (HS.out _ (Kb9.out.trans (Keeps.of hx))).1, (HS.out _ (Kb9.out.trans (Keeps.of hx))).2.1, (HS.out _ (Kb9.out.trans (Keeps.of hx))).2.2.1⟩ : w'.cell? ⟨p, 0, none⟩ = some (.slice (some ⟨g, 0, none⟩) vsn vsc) ∧ w'.cell? ⟨g, k * 6 + 1, none⟩ = some (.string vaddr) ∧ w'.cell? ⟨g, k * 6 + 2, none⟩ = some (.int .i64 vstatus) ∧ w'.cell? ⟨g, k * 6 + 3, none⟩ = some (.slice vfA vfn vfc) ∧ w'.cell? ⟨g, k * 6 + 4, none⟩ = some (.slice vbA vbn vbc) ∧ w'.cell? ⟨g, k * 6 + 5, none⟩ = some (.slice vA vn vc) ∧ w'.cell? ⟨w.heap.size, 0, none⟩ = some (.string me) ∧ w'.cell? ⟨w.heap.size, 1, none⟩ = some (.string ta) ∧ w'.cell? ⟨w.heap.size, 2, none⟩ = some (.slice rA rn rc)))
          have HC20 := Lib.hid (fun w' (hx : Ext w9 w') => HVe.out w' _ _ _ ⟨vaddr, vstatus, f, vbody, vars, ⟨vfA, vfn, vfc⟩, ⟨vbA, vbn, vbc⟩, ⟨vA, vn, vc⟩⟩ (HA9.out.ext hx) (hmem.ext hx) hbd (K9.out.trans (Keeps.of hx)))
          clear c0 c1 c2 c3 c4 c5 hvk hmem hbd
          simp only [MV.cells, Sl.v] at HC20
          have hwm : IntKind.i64.wrap (((k + 1 : Nat) : Int) - 1) = (k : Int) := by rw [IntWalk.i64_in _ (by omega)]; omega
          have hwk : IntKind.i64.wrap (k : Int) = (k : Int) := IntWalk.i64_in _ (by omega)
          have hwl : IntKind.i64.wrap ((k : Int) + 1 - 1) = (k : Int) := by rw [IntWalk.i64_in _ (by omega)]; omega
          have hkn : (k : Int) < (vsn : Int) := by omega
          have hL := (Ext.refl w9).drew
          refine wp_region_U (S := (fun w' => w'.cell? ⟨p, 0, none⟩ = some (.slice (some ⟨g, 0, none⟩) vsn vsc) ∧ w'.cell? ⟨g, k * 6 + 1, none⟩ = some (.string vaddr) ∧ w'.cell? ⟨g, k * 6 + 2, none⟩ = some (.int .i64 vstatus) ∧ w'.cell? ⟨g, k * 6 + 3, none⟩ = some (.slice vfA vfn vfc) ∧ w'.cell? ⟨g, k * 6 + 4, none⟩ = some (.slice vbA vbn vbc) ∧ w'.cell? ⟨g, k * 6 + 5, none⟩ = some (.slice vA vn vc) ∧ w'.cell? ⟨w.heap.size, 0, none⟩ = some (.string me) ∧ w'.cell? ⟨w.heap.size, 1, none⟩ = some (.string ta) ∧ w'.cell? ⟨w.heap.size, 2, none⟩ = some (.slice rA rn rc))) 11 (by kernel_rfl) ?_ (fun hHeld => ?_)
          · (try dsimp only); exact HS20.out _ hL
          refine wpAnyU_takeW (i := 0) (oi := { dst := some 99, op := _, type := _, pos := _, after := _, guard := _ }) (v := ?_) (by kernel_rfl) rfl (by kernel_rfl) (by kernel_rfl) (by kernel_rfl) (fun _ _ _ h => h) (Or.inl ⟨by rfl, ?_⟩) (by assumption) ?_
          rotate_left
          · (intro w hSw; (try dsimp only at hSw); go_simp; (try with_reducible rfl))
          (try simp only [Act.put, List.setIfInBounds_toArray, List.set_cons_zero, List.set_cons_succ])
          refine wpAnyU_takeW (i := 1) (oi := { dst := some 100, op := _, type := _, pos := _, after := _, guard := _ }) (v := ?_) (by kernel_rfl) rfl (by kernel_rfl) (by kernel_rfl) (by kernel_rfl) (fun _ _ _ h => h) (Or.inl ⟨by rfl, ?_⟩) (by assumption) ?_
          rotate_left
          · (intro w hSw; (try dsimp only at hSw); go_simp; (try with_reducible rfl))
          (try simp only [Act.put, List.setIfInBounds_toArray, List.set_cons_zero, List.set_cons_succ])
          refine wpAnyU_takeW (i := 2) (oi := { dst := some 101, op := _, type := _, pos := _, after := _, guard := _ }) (v := ?_) (by kernel_rfl) rfl (by kernel_rfl) (by kernel_rfl) (by kernel_rfl) (fun _ _ _ h => h) (Or.inl ⟨by rfl, ?_⟩) (by assumption) ?_
          rotate_left
          · (intro w hSw; (try dsimp only at hSw); go_simp; (try with_reducible rfl))
          (try simp only [Act.put, List.setIfInBounds_toArray, List.set_cons_zero, List.set_cons_succ])
          refine wpAnyU_takeW (i := 3) (oi := { dst := some 102, op := _, type := _, pos := _, after := _, guard := _ }) (v := ?_) (by kernel_rfl) rfl (by kernel_rfl) (by kernel_rfl) (by kernel_rfl) (fun _ _ _ h => h) (Or.inl ⟨by rfl, ?_⟩) (by assumption) ?_
          rotate_left
          · (intro w hSw; (try dsimp only at hSw); go_simp; (try with_reducible rfl))
          (try simp only [Act.put, List.setIfInBounds_toArray, List.set_cons_zero, List.set_cons_succ])
          refine wpAnyU_take (i := 4) (oi := { dst := some 103, op := _, type := _, pos := _, after := _, guard := _ }) (v := ?_) [7, 8, 9, 11] (by kernel_rfl) (by kernel_rfl) (by kernel_rfl) (by kernel_rfl) rfl (by kernel_rfl) (by kernel_rfl) (by kernel_rfl) (fun _ _ _ h => h) (Or.inl ⟨by rfl, ?_⟩) (by assumption) ?_
          rotate_left
          · (intro w hSw; (try dsimp only at hSw); go_simp; (try with_reducible rfl))
          (try simp only [Act.put, List.setIfInBounds_toArray, List.set_cons_zero, List.set_cons_succ])
          refine wpAnyU_takeW (i := 5) (oi := { dst := some 104, op := _, type := _, pos := _, after := _, guard := _ }) (v := ?_) (by kernel_rfl) rfl (by kernel_rfl) (by kernel_rfl) (by kernel_rfl) (fun _ _ _ h => h) (Or.inl ⟨by rfl, ?_⟩) (by assumption) ?_
          rotate_left
          · (intro w hSw; (try dsimp only at hSw); go_simp; (try with_reducible rfl))
          (try simp only [Act.put, List.setIfInBounds_toArray, List.set_cons_zero, List.set_cons_succ])
          refine wpAnyU_takeW (i := 6) (oi := { dst := some 105, op := _, type := _, pos := _, after := _, guard := _ }) (v := ?_) (by kernel_rfl) rfl (by kernel_rfl) (by kernel_rfl) (by kernel_rfl) (fun _ _ _ h => h) (Or.inl ⟨by rfl, ?_⟩) (by assumption) ?_
          rotate_left
          · (intro w hSw; (try dsimp only at hSw); go_simp; (try with_reducible rfl))
          (try simp only [Act.put, List.setIfInBounds_toArray, List.set_cons_zero, List.set_cons_succ])
          refine wpAnyU_takeW (i := 7) (oi := { dst := some 106, op := _, type := _, pos := _, after := _, guard := _ }) (v := ?_) (by kernel_rfl) rfl (by kernel_rfl) (by kernel_rfl) (by kernel_rfl) (fun _ _ _ h => h) (Or.inl ⟨by rfl, ?_⟩) (by assumption) ?_
          rotate_left
          · (intro w hSw; (try dsimp only at hSw); go_simp; (try with_reducible rfl))
          (try simp only [Act.put, List.setIfInBounds_toArray, List.set_cons_zero, List.set_cons_succ])
          refine wpAnyU_takeW (i := 8) (oi := { dst := some 107, op := _, type := _, pos := _, after := _, guard := _ }) (v := ?_) (by kernel_rfl) rfl (by kernel_rfl) (by kernel_rfl) (by kernel_rfl) (fun _ _ _ h => h) (Or.inl ⟨by rfl, ?_⟩) (by assumption) ?_
          rotate_left
          · (intro w hSw; (try dsimp only at hSw); go_simp; (try with_reducible rfl))
          (try simp only [Act.put, List.setIfInBounds_toArray, List.set_cons_zero, List.set_cons_succ])
          refine wpAnyU_take (i := 9) (oi := { dst := some 108, op := _, type := _, pos := _, after := _, guard := _ }) (v := ?_) [11] (by kernel_rfl) (by kernel_rfl) (by kernel_rfl) (by kernel_rfl) rfl (by kernel_rfl) (by kernel_rfl) (by kernel_rfl) (fun _ _ _ h => h) (Or.inl ⟨by rfl, ?_⟩) (by assumption) ?_
          rotate_left
          · (intro w hSw; (try dsimp only at hSw); go_simp; (try with_reducible rfl))
          (try simp only [Act.put, List.setIfInBounds_toArray, List.set_cons_zero, List.set_cons_succ])
          refine wpAnyU_take (i := 10) (oi := { dst := some 109, op := _, type := _, pos := _, after := _, guard := _ }) (v := ?_) [11] (by kernel_rfl) (by kernel_rfl) (by kernel_rfl) (by kernel_rfl) rfl (by kernel_rfl) (by kernel_rfl) (by kernel_rfl) (fun _ _ _ h => h) (Or.inl ⟨by rfl, ?_⟩) (by assumption) ?_
          rotate_left
          · (intro w hSw; (try dsimp only at hSw); go_simp; (try with_reducible rfl))
          (try simp only [Act.put, List.setIfInBounds_toArray, List.set_cons_zero, List.set_cons_succ])
          refine wpAnyU_ready (rs := [11]) (by kernel_rfl) (by simp) ?_
          refine AllReadyU.stop (o := { dst := some 110, op := _, type := _, pos := _, after := _, guard := _ }) rfl (by kernel_rfl) (fun K hK => ?_) AllReadyU.nil
          go_simp
          refine (HC20.out _ hL).mono ?_; rintro e w10 ⟨v, rfl, ⟨fs9, bd9, h9⟩, hk9⟩
          try go_wp2_with fail
          refine hK.out _ _ ?_ (fun hHeld => ?_)
          · (try dsimp only); (try trivial)
          clear hK K
          (try simp only [Act.put, List.setIfInBounds_toArray, List.set_cons_zero, List.set_cons_succ])
          refine wpAnyH_done (by kernel_rfl) ?_ _
          go_wp2_with fail
          (first | go_end0 | ((try simp only [Exit.inBlock, Exit.then]); refine bodyPost_ret (results_none rfl _ _ _) rfl ?_))
          first | exact ⟨_, rfl, ⟨fs9, bd9, by rw [DD.out]; exact h9⟩, (K9.out.trans (Keeps.of hL)).trans hk9⟩ | exact ⟨rfl, ⟨fs9, bd9, by rw [DD.out]; exact h9⟩, (K9.out.trans (Keeps.of hL)).trans hk9⟩
    · go_simp
      try go_wp2_with fail
      refine hK.out _ _ ?_ (fun hHeld => ?_)
      · (try dsimp only); exact ⟨HD.out _ (hE.alloc _), (HS.out _ (Kb2.out.trans (Keeps.of (hE.alloc _)))).2.1⟩
      clear hK K
      (try simp only [Act.put, List.setIfInBounds_toArray, List.set_cons_zero, List.set_cons_succ])
      refine wpAnyU_ready (rs := [5]) (by kernel_rfl) (by simp) ?_
      refine AllReadyU.cons (o := { dst := some 55, op := _, type := _, pos := _, after := _, guard := _ }) rfl (fun K hK => ?_) AllReadyU.nil
      go_simp
      have HX5 := Lib.hid (Blk.new w2.drew 123 #[.string ⟨#[]⟩, .string ⟨#[]⟩, .string ⟨#[]⟩, .bool false]); have hE5 := hE.alloc (.cells #[.string ⟨#[]⟩, .string ⟨#[]⟩, .string ⟨#[]⟩, .bool false] 123); refine (HPr.out _ (Keeps.of (HE2.out.trans hE5))).mono ?_; rintro e w3 ⟨⟨n3, rfl, hn3, hi3⟩, hb3⟩; have HX3 := Lib.hid (HX5.out.ext hb3); replace hE := hE5.trans hb3
      try go_wp2_with fail
      refine hK.out _ _ ?_ (fun hHeld => ?_)
      · (try dsimp only); exact ⟨HD.out _ hE, (HS.out _ (Kb2.out.trans (Keeps.of hE))).2.1⟩
      clear hK K
      (try simp only [Act.put, List.setIfInBounds_toArray, List.set_cons_zero, List.set_cons_succ])
      refine wpAnyU_takeW (i := 6) (oi := { dst := some 49, op := _, type := _, pos := _, after := _, guard := _ }) (v := ?_) (by kernel_rfl) rfl (by kernel_rfl) (by kernel_rfl) (by kernel_rfl) (fun _ _ _ h => h) (Or.inl ⟨by rfl, ?_⟩) (by assumption) ?_
      rotate_left
      · (intro w hSw; (try dsimp only at hSw); go_simp; (try with_reducible rfl))
      (try simp only [Act.put, List.setIfInBounds_toArray, List.set_cons_zero, List.set_cons_succ])
      refine wpAnyU_takeW (i := 7) (oi := { dst := some 56, op := _, type := _, pos := _, after := _, guard := _ }) (v := ?_) (by kernel_rfl) rfl (by kernel_rfl) (by kernel_rfl) (by kernel_rfl) (fun _ _ _ h => h) (Or.inl ⟨by rfl, ?_⟩) (by assumption) ?_
      rotate_left
      · (intro w hSw; (try dsimp only at hSw); go_simp; (try with_reducible rfl))
      (try simp only [Act.put, List.setIfInBounds_toArray, List.set_cons_zero, List.set_cons_succ])
      refine wpAnyU_takeW (i := 8) (oi := { dst := some 57, op := _, type := _, pos := _, after := _, guard := _ }) (v := ?_) (by kernel_rfl) rfl (by kernel_rfl) (by kernel_rfl) (by kernel_rfl) (fun _ _ _ h => h) (Or.inl ⟨by rfl, ?_⟩) (by assumption) ?_
      rotate_left
      · (intro w hSw; (try dsimp only at hSw); go_simp; (try with_reducible rfl))
      (try simp only [Act.put, List.setIfInBounds_toArray, List.set_cons_zero, List.set_cons_succ])
      refine wpAnyU_ready (rs := [10]) (by kernel_rfl) (by simp) ?_
      refine AllReadyU.stop (o := { dst := none, op := _, type := _, pos := _, after := _, guard := _ }) rfl (by kernel_rfl) (fun K hK => ?_) AllReadyU.nil
      have c0 : w3.cell? ⟨w2.heap.size, 0, none⟩ = some (.string ⟨#[]⟩) := HX3.out.cell 0; have f0 : w3.frozen? ⟨w2.heap.size, 0, none⟩ = false := HX3.out.frozen 0; have c1 : w3.cell? ⟨w2.heap.size, 1, none⟩ = some (.string ⟨#[]⟩) := HX3.out.cell 1; have f1 : w3.frozen? ⟨w2.heap.size, 1, none⟩ = false := HX3.out.frozen 1; have c2 : w3.cell? ⟨w2.heap.size, 2, none⟩ = some (.string ⟨#[]⟩) := HX3.out.cell 2; have f2 : w3.frozen? ⟨w2.heap.size, 2, none⟩ = false := HX3.out.frozen 2; have c3 : w3.cell? ⟨w2.heap.size, 3, none⟩ = some (.bool false) := HX3.out.cell 3; have f3 : w3.frozen? ⟨w2.heap.size, 3, none⟩ = false := HX3.out.frozen 3
      go_simp
      try go_wp2_with fail
      refine hK.out _ _ ?_ (fun hHeld => ?_)
      · (try dsimp only); (try trivial)
      clear hK K
      (try simp only [Act.put, List.setIfInBounds_toArray, List.set_cons_zero, List.set_cons_succ])
      refine wpAnyH_take (i := 11) (oi := { dst := some 9, op := _, type := _, pos := _, after := _, guard := _ }) (v := ?_) rfl (by kernel_rfl) (by kernel_rfl) (by kernel_rfl) (fun _ _ _ h => h) (Or.inl ⟨by rfl, ?_⟩) (by assumption) ?_
      rotate_left
      · (intro w hSw; (try dsimp only at hSw); go_simp; (try with_reducible rfl))
      (try simp only [Act.put, List.setIfInBounds_toArray, List.set_cons_zero, List.set_cons_succ])
      refine wpAnyH_done (by kernel_rfl) ?_ _
      have HX4 := Lib.hid (show Blk ((((w3.setCell ⟨w2.heap.size, 0, none⟩ (.string q1)).setCell ⟨w2.heap.size, 1, none⟩ (.string q2)).setCell ⟨w2.heap.size, 2, none⟩ (.string q3)).setCell ⟨w2.heap.size, 3, none⟩ (.bool q4)) w2.heap.size 123 #[.string q1, .string q2, .string q3, .bool q4] from (((HX3.out.set_ 0 (.string q1)).set_ 1 (.string q2)).set_ 2 (.string q3)).set_ 3 (.bool q4))
      replace hE := (((hE.setCell (p := ⟨w2.heap.size, 0, none⟩) (Nat.le_refl _) (.string q1)).setCell (p := ⟨w2.heap.size, 1, none⟩) (Nat.le_refl _) (.string q2)).setCell (p := ⟨w2.heap.size, 2, none⟩) (Nat.le_refl _) (.string q3)).setCell (p := ⟨w2.heap.size, 3, none⟩) (Nat.le_refl _) (.bool q4)
      clear c0 c1 c2 c3 f0 f1 f2 f3
      generalize (((w3.setCell ⟨w2.heap.size, 0, none⟩ (.string q1)).setCell ⟨w2.heap.size, 1, none⟩ (.string q2)).setCell ⟨w2.heap.size, 2, none⟩ (.string q3)).setCell ⟨w2.heap.size, 3, none⟩ (.bool q4) = wx at *
      generalize hbx : w2.heap.size = bx at *
      have HEx := Lib.hid (HE2.out.trans hE); have Kx := Lib.hid (Keeps.of (S := fun i => i = pa) HEx.out); have Kbx := Lib.hid (Kb2.out.trans (Keeps.of hE)); have HAx := Lib.hid (HA.out.ext HEx.out)
      rcases errV_eq0 n3 with ⟨h0, h1⟩ | ⟨h0, h1⟩
      rotate_left
      · rw [h1]
        have hPn : P = none := by cases P with | none => rfl | some a => exact absurd (hi3.2 rfl) h0
        have k1 : wx.cell? ⟨pa, 1, none⟩ = some (.int .i64 0) := HAx.out.blk.cell 1
        have f1 : wx.frozen? ⟨pa, 1, none⟩ = false := HAx.out.blk.frozen 1
        have HZ := Lib.hid (HAx.out.putS 400)
        go_wp2_with fail
        (first | go_end0 | ((try simp only [Exit.inBlock, Exit.then]); refine bodyPost_ret (results_none rfl _ _ _) rfl ?_))
        first | exact ⟨_, rfl, ⟨sl0, sl0, by rw [D400b.out hPn]; exact HZ.out.1⟩, Kx.out.trans HZ.out.2⟩ | exact ⟨rfl, ⟨sl0, sl0, by rw [D400b.out hPn]; exact HZ.out.1⟩, Kx.out.trans HZ.out.2⟩
      · rw [h1]
        obtain ⟨a, ha⟩ := Option.isSome_iff_exists.1 (hi3.1 h0)
        obtain ⟨e1, e2, e3, e4⟩ := adr_q (ha ▸ Hq.out)
        have hs4 := Hsz.out a ha
        have hok := Hag.out a ha
        subst e1; subst e2; subst e3; subst e4
        have hXq := HX4.out
        have u0 : wx.cell? ⟨bx, 0, none⟩ = some (.string ⟨a.host.toArray⟩) := hXq.cell 0
        have u1 : wx.cell? ⟨bx, 1, none⟩ = some (.string ⟨a.path.toArray⟩) := hXq.cell 1
        have u2 : wx.cell? ⟨bx, 2, none⟩ = some (.string ⟨a.query.toArray⟩) := hXq.cell 2
        have u3 : wx.cell? ⟨bx, 3, none⟩ = some (.bool a.has) := hXq.cell 3
        clear hXq
        have HFm := Lib.hid (HFm.out wx a hok (by omega) (by omega) Kx.out)
        have D404 := Lib.hid (D404.out a ha); have Dver := Lib.hid (fun k => Dver.out a k ha)
        generalize (⟨(adText a).toArray⟩ : ByteArray) = T at *
        clear hok hs4
        go_wp2_with fail
        refine HFm.out.mono ?_; rintro e w5 ⟨rfl, hb5⟩
        clear u0 u1 u2 u3
        have HA5 := Lib.hid (HAx.out.ext hb5)
        have k4 : w5.cell? ⟨pa, 4, none⟩ = some (.string ⟨#[]⟩) := HA5.out.blk.cell 4
        have f4 : w5.frozen? ⟨pa, 4, none⟩ = false := HA5.out.blk.frozen 4
        have HZ4 := Lib.hid (HA5.out.putA T)
        go_upto_region 16 with fail
        have K6 := Lib.hid ((Kx.out.trans (Keeps.of hb5)).trans HZ4.out.2); have Kb6 := Lib.hid ((Kbx.out.trans (Keeps.of hb5)).trans HZ4.out.2); have HA6 := Lib.hid HZ4.out.1
        clear k4 f4 HZ4 HA5
        generalize (w5.setCell ⟨pa, 4, none⟩ (.string T)) = w6 at *
        obtain ⟨x0, x1, x2, y0⟩ := HS.out _ Kb6.out
        go_wp2_with fail
        refine (HFd.out _ T K6.out).mono ?_; rintro e w7 ⟨rfl, hb7⟩
        clear x0 x1 x2 y0
        have hfl := Hfl.out T
        have K7 := Lib.hid (K6.out.trans (Keeps.of hb7)); have Kb7 := Lib.hid (Kb6.out.trans (Keeps.of hb7)); have HA7 := Lib.hid (HA6.out.ext hb7)
        generalize findS o.vs T t = fn at *
        cases fn with
        | zero =>
          have DD := Lib.hid (D404.out (by trivial))
          go_wp2_with fail
          refine (or_brief _).mono ?_; rintro e w8 ⟨⟨bA2, bn2, bc2⟩, rfl, hbn8, hbr8, hb8⟩
          change bn2 = 1 at hbn8
          subst hbn8
          have HA8 := Lib.hid (HA7.out.ext hb8)
          have hpw : pa < w7.heap.size := HA7.out.blk.lt
          have HZ := Lib.hid (HA8.out.putF (hbr8.sub (Q' := fun i => i = pa) (fun i hi => by rw [show i = pa from hi]; exact hpw)) 404)
          simp only [Sl.v] at HZ ⊢
          have k1 : w8.cell? ⟨pa, 1, none⟩ = some (.int .i64 0) := HA8.out.blk.cell 1
          have f1 : w8.frozen? ⟨pa, 1, none⟩ = false := HA8.out.blk.frozen 1
          have k7 : w8.cell? ⟨pa, 7, none⟩ = some (.slice none 0 0) := HA8.out.blk.cell 7
          have f7 : w8.frozen? ⟨pa, 7, none⟩ = false := HA8.out.blk.frozen 7
          go_wp2_with fail
          (first | go_end0 | ((try simp only [Exit.inBlock, Exit.then]); refine bodyPost_ret (results_none rfl _ _ _) rfl ?_))
          first | exact ⟨_, rfl, ⟨_, _, by rw [DD.out]; exact HZ.out.1⟩, (K7.out.trans (Keeps.of hb8)).trans HZ.out.2⟩ | exact ⟨rfl, ⟨_, _, by rw [DD.out]; exact HZ.out.1⟩, (K7.out.trans (Keeps.of hb8)).trans HZ.out.2⟩
        | succ k =>
          have hkv : k < o.vs.length := by omega
          have DD := Lib.hid (Dver.out k (by trivial) hkv)
          have hk0 : ((((k + 1 : Nat) : Int)) == 0) = false := by rw [beq_eq_false_iff_ne]; omega
          have hk00 : (((k : Int) + 1) == 0) = false := by rw [beq_eq_false_iff_ne]; omega
          have k2 : w7.cell? ⟨pa, 2, none⟩ = some (.int .i64 0) := HA7.out.blk.cell 2
          have f2 : w7.frozen? ⟨pa, 2, none⟩ = false := HA7.out.blk.frozen 2
          have HZ := Lib.hid (HA7.out.putN ((k : Int) + 1))
          go_upto_region 20 with fail
          have K9 := Lib.hid (K7.out.trans HZ.out.2); have Kb9 := Lib.hid (Kb7.out.trans HZ.out.2); have HA9 := Lib.hid HZ.out.1
          clear k2 f2 HZ
          generalize (w7.setCell ⟨pa, 2, none⟩ (.int .i64 ((k : Int) + 1))) = w9 at *
          have hkm : k < mv.length := by have h1 : mv.length = o.vs.length := HN.out.2; omega
          have hvn : vsn = o.vs.length := HN.out.1
          obtain ⟨g, hA, c0, c1, c2, c3, c4, c5⟩ := (HO.out _ K9.out).at_ hkm
          have hvk := (HO.out _ K9.out).vs_at hkv hkm
          have hmem := (HO.out _ K9.out).mem _ (List.getElem_mem hkm)
          have hbd := (Hbd.out _ (List.getElem_mem hkv)).1
          rw [hvk] at hbd DD
          (try simp only at hA hbd DD c0 c1 c2 c3 c4 c5)
          subst hA
          generalize mv[k] = x at *
          obtain ⟨at_, vaddr, vstatus, f, vbody, vars, ⟨vfA, vfn, vfc⟩, ⟨vbA, vbn, vbc⟩, ⟨vA, vn, vc⟩⟩ := x
          simp only [Sl.v] at c0 c1 c2 c3 c4 c5 hmem hbd DD
          have HS20 := Lib.hid (fun w' (hx : Ext w9 w') => (⟨(HP.out _ (K9.out.trans (Keeps.of hx))).1, hx.cell c1, hx.cell c2, hx.cell c3, hx.cell c4, hx.cell c5, (HS.out _ (Kb9.out.trans (Keeps.of hx))).1, (HS.out _ (Kb9.out.trans (Keeps.of hx))).2.1, (HS.out _ (Kb9.out.trans (Keeps.of hx))).2.2.1⟩ : w'.cell? ⟨p, 0, none⟩ = some (.slice (some ⟨g, 0, none⟩) vsn vsc) ∧ w'.cell? ⟨g, k * 6 + 1, none⟩ = some (.string vaddr) ∧ w'.cell? ⟨g, k * 6 + 2, none⟩ = some (.int .i64 vstatus) ∧ w'.cell? ⟨g, k * 6 + 3, none⟩ = some (.slice vfA vfn vfc) ∧ w'.cell? ⟨g, k * 6 + 4, none⟩ = some (.slice vbA vbn vbc) ∧ w'.cell? ⟨g, k * 6 + 5, none⟩ = some (.slice vA vn vc) ∧ w'.cell? ⟨w.heap.size, 0, none⟩ = some (.string me) ∧ w'.cell? ⟨w.heap.size, 1, none⟩ = some (.string ta) ∧ w'.cell? ⟨w.heap.size, 2, none⟩ = some (.slice rA rn rc)))
          have HC20 := Lib.hid (fun w' (hx : Ext w9 w') => HVe.out w' _ _ _ ⟨vaddr, vstatus, f, vbody, vars, ⟨vfA, vfn, vfc⟩, ⟨vbA, vbn, vbc⟩, ⟨vA, vn, vc⟩⟩ (HA9.out.ext hx) (hmem.ext hx) hbd (K9.out.trans (Keeps.of hx)))
          clear c0 c1 c2 c3 c4 c5 hvk hmem hbd
          simp only [MV.cells, Sl.v] at HC20
          have hwm : IntKind.i64.wrap (((k + 1 : Nat) : Int) - 1) = (k : Int) := by rw [IntWalk.i64_in _ (by omega)]; omega
          have hwk : IntKind.i64.wrap (k : Int) = (k : Int) := IntWalk.i64_in _ (by omega)
          have hwl : IntKind.i64.wrap ((k : Int) + 1 - 1) = (k : Int) := by rw [IntWalk.i64_in _ (by omega)]; omega
          have hkn : (k : Int) < (vsn : Int) := by omega
          have hL := (Ext.refl w9).drew
          refine wp_region_U (S := (fun w' => w'.cell? ⟨p, 0, none⟩ = some (.slice (some ⟨g, 0, none⟩) vsn vsc) ∧ w'.cell? ⟨g, k * 6 + 1, none⟩ = some (.string vaddr) ∧ w'.cell? ⟨g, k * 6 + 2, none⟩ = some (.int .i64 vstatus) ∧ w'.cell? ⟨g, k * 6 + 3, none⟩ = some (.slice vfA vfn vfc) ∧ w'.cell? ⟨g, k * 6 + 4, none⟩ = some (.slice vbA vbn vbc) ∧ w'.cell? ⟨g, k * 6 + 5, none⟩ = some (.slice vA vn vc) ∧ w'.cell? ⟨w.heap.size, 0, none⟩ = some (.string me) ∧ w'.cell? ⟨w.heap.size, 1, none⟩ = some (.string ta) ∧ w'.cell? ⟨w.heap.size, 2, none⟩ = some (.slice rA rn rc))) 11 (by kernel_rfl) ?_ (fun hHeld => ?_)
          · (try dsimp only); exact HS20.out _ hL
          refine wpAnyU_takeW (i := 0) (oi := { dst := some 99, op := _, type := _, pos := _, after := _, guard := _ }) (v := ?_) (by kernel_rfl) rfl (by kernel_rfl) (by kernel_rfl) (by kernel_rfl) (fun _ _ _ h => h) (Or.inl ⟨by rfl, ?_⟩) (by assumption) ?_
          rotate_left
          · (intro w hSw; (try dsimp only at hSw); go_simp; (try with_reducible rfl))
          (try simp only [Act.put, List.setIfInBounds_toArray, List.set_cons_zero, List.set_cons_succ])
          refine wpAnyU_takeW (i := 1) (oi := { dst := some 100, op := _, type := _, pos := _, after := _, guard := _ }) (v := ?_) (by kernel_rfl) rfl (by kernel_rfl) (by kernel_rfl) (by kernel_rfl) (fun _ _ _ h => h) (Or.inl ⟨by rfl, ?_⟩) (by assumption) ?_
          rotate_left
          · (intro w hSw; (try dsimp only at hSw); go_simp; (try with_reducible rfl))
          (try simp only [Act.put, List.setIfInBounds_toArray, List.set_cons_zero, List.set_cons_succ])
          refine wpAnyU_takeW (i := 2) (oi := { dst := some 101, op := _, type := _, pos := _, after := _, guard := _ }) (v := ?_) (by kernel_rfl) rfl (by kernel_rfl) (by kernel_rfl) (by kernel_rfl) (fun _ _ _ h => h) (Or.inl ⟨by rfl, ?_⟩) (by assumption) ?_
          rotate_left
          · (intro w hSw; (try dsimp only at hSw); go_simp; (try with_reducible rfl))
          (try simp only [Act.put, List.setIfInBounds_toArray, List.set_cons_zero, List.set_cons_succ])
          refine wpAnyU_takeW (i := 3) (oi := { dst := some 102, op := _, type := _, pos := _, after := _, guard := _ }) (v := ?_) (by kernel_rfl) rfl (by kernel_rfl) (by kernel_rfl) (by kernel_rfl) (fun _ _ _ h => h) (Or.inl ⟨by rfl, ?_⟩) (by assumption) ?_
          rotate_left
          · (intro w hSw; (try dsimp only at hSw); go_simp; (try with_reducible rfl))
          (try simp only [Act.put, List.setIfInBounds_toArray, List.set_cons_zero, List.set_cons_succ])
          refine wpAnyU_take (i := 4) (oi := { dst := some 103, op := _, type := _, pos := _, after := _, guard := _ }) (v := ?_) [7, 8, 9, 11] (by kernel_rfl) (by kernel_rfl) (by kernel_rfl) (by kernel_rfl) rfl (by kernel_rfl) (by kernel_rfl) (by kernel_rfl) (fun _ _ _ h => h) (Or.inl ⟨by rfl, ?_⟩) (by assumption) ?_
          rotate_left
          · (intro w hSw; (try dsimp only at hSw); go_simp; (try with_reducible rfl))
          (try simp only [Act.put, List.setIfInBounds_toArray, List.set_cons_zero, List.set_cons_succ])
          refine wpAnyU_takeW (i := 5) (oi := { dst := some 104, op := _, type := _, pos := _, after := _, guard := _ }) (v := ?_) (by kernel_rfl) rfl (by kernel_rfl) (by kernel_rfl) (by kernel_rfl) (fun _ _ _ h => h) (Or.inl ⟨by rfl, ?_⟩) (by assumption) ?_
          rotate_left
          · (intro w hSw; (try dsimp only at hSw); go_simp; (try with_reducible rfl))
          (try simp only [Act.put, List.setIfInBounds_toArray, List.set_cons_zero, List.set_cons_succ])
          refine wpAnyU_takeW (i := 6) (oi := { dst := some 105, op := _, type := _, pos := _, after := _, guard := _ }) (v := ?_) (by kernel_rfl) rfl (by kernel_rfl) (by kernel_rfl) (by kernel_rfl) (fun _ _ _ h => h) (Or.inl ⟨by rfl, ?_⟩) (by assumption) ?_
          rotate_left
          · (intro w hSw; (try dsimp only at hSw); go_simp; (try with_reducible rfl))
          (try simp only [Act.put, List.setIfInBounds_toArray, List.set_cons_zero, List.set_cons_succ])
          refine wpAnyU_takeW (i := 7) (oi := { dst := some 106, op := _, type := _, pos := _, after := _, guard := _ }) (v := ?_) (by kernel_rfl) rfl (by kernel_rfl) (by kernel_rfl) (by kernel_rfl) (fun _ _ _ h => h) (Or.inl ⟨by rfl, ?_⟩) (by assumption) ?_
          rotate_left
          · (intro w hSw; (try dsimp only at hSw); go_simp; (try with_reducible rfl))
          (try simp only [Act.put, List.setIfInBounds_toArray, List.set_cons_zero, List.set_cons_succ])
          refine wpAnyU_takeW (i := 8) (oi := { dst := some 107, op := _, type := _, pos := _, after := _, guard := _ }) (v := ?_) (by kernel_rfl) rfl (by kernel_rfl) (by kernel_rfl) (by kernel_rfl) (fun _ _ _ h => h) (Or.inl ⟨by rfl, ?_⟩) (by assumption) ?_
          rotate_left
          · (intro w hSw; (try dsimp only at hSw); go_simp; (try with_reducible rfl))
          (try simp only [Act.put, List.setIfInBounds_toArray, List.set_cons_zero, List.set_cons_succ])
          refine wpAnyU_take (i := 9) (oi := { dst := some 108, op := _, type := _, pos := _, after := _, guard := _ }) (v := ?_) [11] (by kernel_rfl) (by kernel_rfl) (by kernel_rfl) (by kernel_rfl) rfl (by kernel_rfl) (by kernel_rfl) (by kernel_rfl) (fun _ _ _ h => h) (Or.inl ⟨by rfl, ?_⟩) (by assumption) ?_
          rotate_left
          · (intro w hSw; (try dsimp only at hSw); go_simp; (try with_reducible rfl))
          (try simp only [Act.put, List.setIfInBounds_toArray, List.set_cons_zero, List.set_cons_succ])
          refine wpAnyU_take (i := 10) (oi := { dst := some 109, op := _, type := _, pos := _, after := _, guard := _ }) (v := ?_) [11] (by kernel_rfl) (by kernel_rfl) (by kernel_rfl) (by kernel_rfl) rfl (by kernel_rfl) (by kernel_rfl) (by kernel_rfl) (fun _ _ _ h => h) (Or.inl ⟨by rfl, ?_⟩) (by assumption) ?_
          rotate_left
          · (intro w hSw; (try dsimp only at hSw); go_simp; (try with_reducible rfl))
          (try simp only [Act.put, List.setIfInBounds_toArray, List.set_cons_zero, List.set_cons_succ])
          refine wpAnyU_ready (rs := [11]) (by kernel_rfl) (by simp) ?_
          refine AllReadyU.stop (o := { dst := some 110, op := _, type := _, pos := _, after := _, guard := _ }) rfl (by kernel_rfl) (fun K hK => ?_) AllReadyU.nil
          go_simp
          refine (HC20.out _ hL).mono ?_; rintro e w10 ⟨v, rfl, ⟨fs9, bd9, h9⟩, hk9⟩
          try go_wp2_with fail
          refine hK.out _ _ ?_ (fun hHeld => ?_)
          · (try dsimp only); (try trivial)
          clear hK K
          (try simp only [Act.put, List.setIfInBounds_toArray, List.set_cons_zero, List.set_cons_succ])
          refine wpAnyH_done (by kernel_rfl) ?_ _
          go_wp2_with fail
          (first | go_end0 | ((try simp only [Exit.inBlock, Exit.then]); refine bodyPost_ret (results_none rfl _ _ _) rfl ?_))
          first | exact ⟨_, rfl, ⟨fs9, bd9, by rw [DD.out]; exact h9⟩, (K9.out.trans (Keeps.of hL)).trans hk9⟩ | exact ⟨rfl, ⟨fs9, bd9, by rw [DD.out]; exact h9⟩, (K9.out.trans (Keeps.of hL)).trans hk9⟩
end Go.Proofs.YtmckbcbdnckngaaGreatDoor

namespace Go.Proofs.YtmckbcbdnckngaaGreatDoor
open Go.RowKit

structure AB (a : Ans) : Prop where
  len : a.fs.length ≤ 131075
  bsz : Bsz 4611686018427387904 a.fs
  bdy : a.body.size ≤ 1048576
theorem bsz_nil (B : Nat) : Bsz B [] := fun f hf => by cases hf
theorem crP_size {q : Int × Int} {n : Int} {text : ByteArray} (h : crP q n = some text) : text.size ≤ 100 := by
  have hin := crP_in h
  unfold crP at h
  split at h
  · cases h
  · rename_i hc
    injection h with h
    subst h
    simp only [Bool.or_eq_true, Bool.not_eq_true', decide_eq_true_eq, not_or] at hc
    have z1 := decV_size (n := q.1) (by omega); have z2 := decV_size (n := q.2 - 1) (by omega); have z3 := decV_size (n := n) (by omega)
    unfold rgText
    rw [ByteArray.size_append, ByteArray.size_append, ByteArray.size_append, ByteArray.size_append, ByteArray.size_append, show byS.size = 6 from rfl, show (⟨#[45]⟩ : ByteArray).size = 1 from rfl, show (⟨#[47]⟩ : ByteArray).size = 1 from rfl]
    omega
theorem AB_part {a : Ans} {r : Rq} {s : St} (h1 : a.fs.length ≤ 131074) (h2 : Bsz 4611686018427387904 a.fs) (h3 : a.body.size ≤ 1048576) : AB (partS a r s) := by
  have h0 : AB a := ⟨by omega, h2, h3⟩
  unfold partS
  split
  · split
    · exact h0
    · split
      · have z := decV_size (n := (a.body.size : Int)) (by omega)
        refine ⟨by simp, ?_, Nat.zero_le _⟩
        intro f hf
        rw [List.mem_singleton] at hf
        subst hf
        refine ⟨by show x_cr.size ≤ _; decide, ?_⟩
        simp only
        rw [ByteArray.size_append, show (⟨#[98, 121, 116, 101, 115, 32, 42, 47]⟩ : ByteArray).size = 8 from rfl]
        omega
      · split
        · split
          · rename_i text ht
            have z := crP_size ht
            refine ⟨by have := setS_len x_cr text a.fs; simp only; omega, setS_bsz (by decide) (by omega) h2, ?_⟩
            simp only [ByteArray.size_extract]
            omega
          · exact h0
        · exact h0
  · exact h0
theorem bsz_sumle {fs : List Fd} {n : Nat} (h : sumF fs ≤ n) (hn : n ≤ 4611686018427387904) : Bsz 4611686018427387904 fs := fun f hf => by
  have h1 := bszF fs f hf
  exact ⟨by have := h1.1; omega, by have := h1.2; omega⟩
theorem AB_ver {a : Ans} {v : Ver} {r : Rq} (hB : VerB v) : AB (verS a v r) := by
  obtain ⟨c1, c2, c3⟩ := chs_bd v r.fs 0 hB.body hB.fs.1 hB.fs.2 0 v.vars (fun x hx => ⟨(hB.each x hx).2.2.1, (hB.each x hx).2.2.2⟩)
  have hz := bsz_sumle c2 (by omega)
  unfold verS
  simp only
  split
  · exact ⟨by show (chsS v r.fs 0 v.vars).1.length ≤ _; omega, hz, c3⟩
  · split
    · refine ⟨?_, ?_, Nat.zero_le _⟩
      · have := kpt_len (chS v r.fs).1 (chS v r.fs).1.length
        rw [List.take_length] at this
        have c1' : (chS v r.fs).1.length ≤ 131073 := c1
        simp only; omega
      · intro f hf
        exact hz f (List.mem_filter.1 hf).1
    · split
      · exact ⟨by simp, bsz_nil _, Nat.zero_le _⟩
      · exact AB_part (by show (chsS v r.fs 0 v.vars).1.length ≤ _; omega) hz c3
theorem AB_dec {o : Org} {t : Int} {r : Rq} (h : ∀ x ∈ o.vs, VerB x.2) : AB (decS55 o t r) := by
  have hb : Bsz 4611686018427387904 brief := by unfold brief; intro f hf; rw [List.mem_singleton] at hf; subst hf; exact ⟨by decide, by decide⟩
  have e0 : ∀ s, AB { ans0 with status := s } := fun s => ⟨by simp [ans0], bsz_nil _, Nat.zero_le _⟩
  have e1 : ∀ s x, AB { ans0 with status := s, addr := x, fs := brief } := fun s x => ⟨by simp [brief], hb, Nat.zero_le _⟩
  unfold decS55
  split
  · exact e0 _
  · split
    · exact e0 _
    · split
      · split
        · exact e0 _
        · simp only
          split
          · rename_i p hp
            split
            · exact e1 _ _
            · exact AB_ver (h p (List.mem_of_getElem? hp))
          · exact e1 _ _
      · exact e0 _
set_option maxHeartbeats 4000000 in
theorem http_Floor (t : Int) (w : World) : Calls Tryz.prog 46 #[.int .i64 t] w fun e w' => e = .returned (.int .i64 (cl55 t / 1000)) ∧ w' = w := by
  have h0 : 0 ≤ cl55 t ∧ cl55 t ≤ 1099511627776 := by unfold cl55; omega
  have HR := Lib.hid (show cl55 t = max 0 (min t 1099511627776) from rfl)
  have q1 : (max 0 (min t 1099511627776)).tdiv 1000 = cl55 t / 1000 := by rw [← HR.out]; exact Int.tdiv_eq_ediv_of_nonneg h0.1
  have hw1 : IntKind.i64.wrap (cl55 t / 1000) = cl55 t / 1000 := IntWalk.i64_in _ (by omega)
  generalize cl55 t / 1000 = R at *
  go_enter Tryz.func46, Tryz.ntmps46
  go_wp2_with fail
  go_ret
  exact ⟨rfl, rfl⟩
end Go.Proofs.YtmckbcbdnckngaaGreatDoor

namespace Go.Proofs.YtmckbcbdnckngaaGreatDoor
open Go.RowKit

theorem infoRsp : (Tryz.prog.info? 38).map (·.size) = some 2 := by kernel_rfl
def emS (A : Ans) : Bool := A.status == 204 || A.status == 304
def ansF (A : Ans) (t1 : Int) : List Fd := if emS A then setS x_dt (fmtS (t1 / 1000)) A.fs else setS x_cl (decV A.body.size) (setS x_dt (fmtS (t1 / 1000)) A.fs)
def ansB (A : Ans) (me : ByteArray) : ByteArray := if emS A || me.toList == [72, 69, 65, 68] then ⟨#[]⟩ else A.body
def ansK (A : Ans) (t1 : Int) (me : ByteArray) : Akd := ⟨t1, A.status, A.version, A.variant, A.addr, if A.status == 206 then A.lo else 0, if A.status == 206 then A.hi else (ansB A me).size⟩
theorem answ_eq (o : Org) (t : Int) (r : Rq) : answS o t r = ((decS55 o (cl55 t) r).status, ansF (decS55 o (cl55 t) r) (cl55 t), ansB (decS55 o (cl55 t) r) r.method, { o with lg := o.lg ++ [ansK (decS55 o (cl55 t) r) (cl55 t) r.method] }) := rfl
theorem fmtS_len {n : Int} (h0 : 0 ≤ n) (h1 : n ≤ 253402300799) : (fmtS n).size ≤ 100 := by
  obtain ⟨⟨_, _, m0, m1, _, _⟩, -⟩ := date_ok (d := n / 86400) (by omega) (by omega)
  unfold fmtS catS
  simp only [ByteArray.size_append, wdS_size, twoS_size, moS_size m0 m1]
  decide
set_option maxHeartbeats 5000000 in
set_option maxRecDepth 100000 in
theorem or_Answer (Q R : Nat → Prop) (p : Nat) (o : Org) (M : OM) (t : Int) (r : Rq) (rA : Option Addr) (rn rc : Nat) (w : World) (hO : OrgP w p R Q o M) (hr : RdF w rA rn r.fs) (hrc : rn ≤ rc)
    (hrT : sumF r.fs + 2 * rn ≤ 1048576) (htz : r.target.size ≤ 1048576) (hbr : o.br.length ≤ 1000000) (hlg : o.lg.length ≤ 1000000) (hg : Gl w) (hh : GlH w) (hp : GlP w) :
    Calls Tryz.prog 15 #[.pointer (some ⟨p, 0, none⟩), .int .i64 t, .agg #[.string r.method, .string r.target, .slice rA rn rc]] w fun e w' => ∃ s1 s2 : Sl, e = .returned (.tuple #[.agg #[.int .i64 (answS o t r).1, s1.v], s2.v]) ∧
      ∃ R', (∃ M', OrgP w' p R' (fun i => Q i ∨ w.heap.size ≤ i) (answS o t r).2.2.2 M') ∧ RS (fun i => i < w.heap.size ∨ R' i) w' 2 s1 (fldCells (answS o t r).2.1) ∧ RS (fun i => i < w.heap.size ∨ R' i) w' 1 s2 (bytC (answS o t r).2.2.1) ∧
        Keeps R w w' ∧ (∀ i, R i → R' i) ∧ (∀ i, R' i → R i ∨ w.heap.size ≤ i) := by
  have Hans := Lib.hid (answ_eq o t r)
  have Hct := Lib.hid (show 0 ≤ cl55 t ∧ cl55 t ≤ 1099511627776 by unfold cl55; omega)
  have HAB := Lib.hid (AB_dec (o := o) (t := cl55 t) (r := r) (fun x hx => (hO.bd x hx).1))
  have HCl := Lib.hid (fun w' => or_clip t w'); have HFl := Lib.hid (fun w' => http_Floor t w')
  generalize answS o t r = AW at *
  generalize cl55 t = t1 at *
  have HEg := Lib.hid (fun w' (hx : Ext w w') => (⟨hg.ext hx, hh.ext hx, hp.ext hx⟩ : Gl w' ∧ GlH w' ∧ GlP w'))
  have hsz1 : (w.alloc (.cells #[.string r.method, .string r.target, .slice rA rn rc] 42)).heap.size = w.heap.size + 1 := by simp
  have hsz2 : ((w.alloc (.cells #[.string r.method, .string r.target, .slice rA rn rc] 42)).alloc (.cells #[.int .i64 0, .slice none 0 0] 38)).heap.size = w.heap.size + 2 := by simp
  have HX := Lib.hid (((Blk.new w 42 #[.string r.method, .string r.target, .slice rA rn rc]).alloc (.cells #[.int .i64 0, .slice none 0 0] 38)).alloc (.cells #[.int .i64 t1, .int .i64 0, .int .i64 0, .int .i64 0, .string ⟨#[]⟩, .int .i64 0, .int .i64 0, .slice none 0 0, .slice none 0 0] 111))
  have HY := Lib.hid ((Blk.new (w.alloc (.cells #[.string r.method, .string r.target, .slice rA rn rc] 42)) 38 #[.int .i64 0, .slice none 0 0]).alloc (.cells #[.int .i64 t1, .int .i64 0, .int .i64 0, .int .i64 0, .string ⟨#[]⟩, .int .i64 0, .int .i64 0, .slice none 0 0, .slice none 0 0] 111))
  have HZ := Lib.hid (Blk.new ((w.alloc (.cells #[.string r.method, .string r.target, .slice rA rn rc] 42)).alloc (.cells #[.int .i64 0, .slice none 0 0] 38)) 111 #[.int .i64 t1, .int .i64 0, .int .i64 0, .int .i64 0, .string ⟨#[]⟩, .int .i64 0, .int .i64 0, .slice none 0 0, .slice none 0 0])
  have HE3 := Lib.hid ((((Ext.refl w).alloc (.cells #[.string r.method, .string r.target, .slice rA rn rc] 42)).alloc (.cells #[.int .i64 0, .slice none 0 0] 38)).alloc (.cells #[.int .i64 t1, .int .i64 0, .int .i64 0, .int .i64 0, .string ⟨#[]⟩, .int .i64 0, .int .i64 0, .slice none 0 0, .slice none 0 0] 111))
  rw [hsz1] at HY
  rw [hsz2] at HZ
  obtain ⟨W3, hW3⟩ : ∃ W3, (((w.alloc (.cells #[.string r.method, .string r.target, .slice rA rn rc] 42)).alloc (.cells #[.int .i64 0, .slice none 0 0] 38)).alloc (.cells #[.int .i64 t1, .int .i64 0, .int .i64 0, .int .i64 0, .string ⟨#[]⟩, .int .i64 0, .int .i64 0, .slice none 0 0, .slice none 0 0] 111)) = W3 := ⟨_, rfl⟩
  have HW3 := Lib.hid hW3
  rw [hW3] at HX HY HZ HE3
  have hA3 : AnsAt W3 (w.heap.size + 2) t1 ans0 sl0 sl0 := ⟨HZ.out, RS.nil _ _ _, RS.nil _ _ _⟩
  have hO3 := (hO.more (Q' := fun i => Q i ∨ w.heap.size ≤ i) (fun i hi => hi) (fun b hb => .inl (hO.rq b hb))).ext HE3.out
  have hpl : ¬ R (w.heap.size + 2) := fun h => by have := hO.low _ h; omega
  have hr3 := ((⟨hr, fun _ _ _ h => h, hrc⟩ : RS (fun _ => False) w 2 ⟨rA, rn, rc⟩ (fldCells r.fs)).more (Q' := fun i => i = (w.heap.size + 2)) (fun i hi => .inr (by omega))).ext HE3.out
  have hgp : ∀ w', Keeps (fun i => i = (w.heap.size + 2)) W3 w' → Ext w w' := fun w' hk => HE3.out.keeps hk (fun i hi => by omega)
  have HCh := Lib.hid (or_choose (fun i => Q i ∨ w.heap.size ≤ i) R p o M (w.heap.size + 2) t1 r rA rn rc W3 hO3 hA3 hpl (.inr (by omega)) hr3 hrT htz hbr (fun w' hk => HEg.out _ (hgp w' hk)))
  have HO := Lib.hid (fun w' (hk : Keeps (fun i => i = (w.heap.size + 2)) W3 w') => hO3.keeps hk (fun i hi => by rw [show i = (w.heap.size + 2) from hi]; exact ⟨hpl, .inr (by omega)⟩))
  have HGp := Lib.hid hgp
  have Hlow := Lib.hid hO.low; have Hrl := Lib.hid hO.rl; have Hrq := Lib.hid hO.rq
  have HPl := Lib.hid hpl
  clear hO hr hg hh hp hW3 hA3 hO3 hpl hr3 hgp HZ hrT htz hbr hsz1
  obtain ⟨me, ta, rfs⟩ := r
  obtain ⟨vs, br, ⟨lgA, lgn, lgc⟩, mv⟩ := M
  generalize decS55 o t1 ⟨me, ta, rfs⟩ = A at *
  simp only at HX HY HW3 HCh Hans
  obtain rfl := Hans.out
  clear Hans
  simp only
  go_enter Tryz.func15, Tryz.ntmps15
  go_wp2_with fail
  refine (HCl.out _).mono ?_; rintro e w1 ⟨rfl, rfl⟩
  go_upto_region 4 with fail
  (try rw [hsz2])
  rw [HW3.out]
  have r0 : W3.cell? ⟨w.heap.size, 0, none⟩ = some (.string me) := HX.out.cell 0
  have r1 : W3.cell? ⟨w.heap.size, 1, none⟩ = some (.string ta) := HX.out.cell 1
  have r2 : W3.cell? ⟨w.heap.size, 2, none⟩ = some (.slice rA rn rc) := HX.out.cell 2
  clear HW3
  go_wp2_with fail
  refine HCh.out.mono ?_; rintro e w4 ⟨v, rfl, ⟨⟨fA, fn, fc⟩, ⟨bA, bn, bc⟩, h4⟩, hk4⟩
  clear r0 r1 r2
  have hE4 := HGp.out _ hk4
  have Hk4 := Lib.hid hk4
  have HA4 := Lib.hid h4
  clear hk4 h4
  go_wp2_with fail
  refine (HFl.out _).mono ?_; rintro e w4x ⟨rfl, rfl⟩
  go_wp2_with fail
  refine (http_Format (t1 / 1000) w4x (by have := Hct.out; omega) (by have := Hct.out; omega) (HEg.out _ hE4).2.1).mono ?_; rintro e w5 ⟨rfl, hb5⟩
  have HA5 := Lib.hid (HA4.out.ext hb5)
  have hfl := Nat.le_of_eq (HA5.out.fs.rd.lenF).symm
  have s7 : w5.cell? ⟨(w.heap.size + 2), 7, none⟩ = some (.slice fA fn fc) := HA5.out.blk.cell 7
  have hab := HAB.out.len
  have HS1 := Lib.hid (field_Set fA fn fc A.fs x_dt (fmtS (t1 / 1000)) w5 HA5.out.fs.rd (by simp only at hfl; omega) (by decide) HAB.out.bsz)
  have Hdz := Lib.hid (fmtS_len (n := t1 / 1000) (by have := Hct.out; omega) (by have := Hct.out; omega))
  have HFS := Lib.hid (show ansF A t1 = if emS A then setS x_dt (fmtS (t1 / 1000)) A.fs else setS x_cl (decV A.body.size) (setS x_dt (fmtS (t1 / 1000)) A.fs) from rfl)
  generalize fmtS (t1 / 1000) = date at *
  go_wp2_with fail
  refine HS1.out.mono ?_; rintro e w6 ⟨gA, gn, gc, rfl, hg6, hgc, hb6, hown6⟩
  have Hown6 := Lib.hid hown6
  have HG6 := Lib.hid (show RS (fun i => i < w.heap.size + 3) w6 2 ⟨gA, gn, gc⟩ (fldCells (setS x_dt date A.fs)) from ⟨hg6, fun h1 a ha hb => by
    have h9 := (Hown6.out.lt a.block (by simp only at ha; subst ha; rfl)).1
    have h8 : (w.heap.size + 2) < w5.heap.size := HA5.out.blk.lt
    have hb' : a.block < w.heap.size + 3 := hb
    omega, hgc⟩)
  have HE6 := Lib.hid ((hE4.trans hb5).trans hb6); have HE46 := Lib.hid (hb5.trans hb6)
  have HA6 := Lib.hid (HA5.out.ext hb6)
  have HgN := Lib.hid (show gn ≤ 131076 by have h1 := hg6.lenF; have h2 := setS_len x_dt date A.fs; omega)
  have hBn := HA6.out.bsz
  change A.body.size = bn at hBn
  have HBn := Lib.hid hBn
  clear s7 hown6 hg6 hgc hb5 hb6 hfl hBn hE4 HS1
  go_upto_region 9 with fail
  go_cut [12] (fun v wx => v = .bool (emS A) ∧ w6 = wx)
  case first =>
    have s1 : w6.cell? ⟨(w.heap.size + 2), 1, none⟩ = some (.int .i64 A.status) := HA6.out.blk.cell 1
    have HEm := Lib.hid (show emS A = (A.status == 204 || A.status == 304) from rfl)
    generalize emS A = em at *
    generalize A.status = st at *
    cases q1 : (st == 204)
    · cases q2 : (st == 304)
      · go_wp2_with fail
        go_meet
        exact ⟨by rw [HEm.out, q1, q2]; rfl, rfl⟩
      · go_wp2_with fail
        go_meet
        exact ⟨by rw [HEm.out, q1, q2]; rfl, rfl⟩
    · go_wp2_with fail
      go_meet
      exact ⟨by rw [HEm.out, q1]; rfl, rfl⟩
  case rest =>
  obtain ⟨rfl, rfl⟩ := hcut
  obtain ⟨em, hem⟩ : ∃ em, emS A = em := ⟨_, rfl⟩
  rw [hem]
  have Hem := Lib.hid hem
  clear hem
  go_upto_if 55 with fail
  go_cut [11] (fun v wx => ∃ s : Sl, v = s.v ∧ RS (fun i => i < w.heap.size + 3) wx 2 s (fldCells (ansF A t1)) ∧ Ext w6 wx)
  case first =>
    cases em with
    | true =>
      have HF := Lib.hid (show ansF A t1 = setS x_dt date A.fs by rw [HFS.out, Hem.out, if_pos rfl])
      go_wp2_with fail
      go_meet
      exact ⟨⟨gA, gn, gc⟩, rfl, by rw [HF.out]; exact HG6.out, Ext.refl _⟩
    | false =>
      have HF := Lib.hid (show ansF A t1 = setS x_cl (decV A.body.size) (setS x_dt date A.fs) by rw [HFS.out, Hem.out, if_neg (by simp)])
      have s8 : w6.cell? ⟨(w.heap.size + 2), 8, none⟩ = some (.slice bA bn bc) := HA6.out.blk.cell 8
      have hbb := HAB.out.bdy
      have hbn := HBn.out
      have HIt := Lib.hid (show Calls Tryz.prog 48 #[.int .i64 (bn : Nat)] w6 fun e w'' => e = .returned (.string (decV A.body.size)) ∧ Ext w6 w'' from by rw [hbn]; exact std_Itoa bn (by omega) (by omega) w6 (HEg.out _ HE6.out).2.2)
      have HS2 := Lib.hid (fun w' (hx : Ext w6 w') => field_Set gA gn gc (setS x_dt date A.fs) x_cl (decV A.body.size) w' (HG6.out.rd.ext hx) (by have := HgN.out; omega) (by decide) (setS_bsz (by decide) (by have := Hdz.out; omega) HAB.out.bsz))
      clear hbb hbn
      generalize decV A.body.size = dv at *
      go_wp2_with fail
      refine HIt.out.mono ?_; rintro e w7 ⟨rfl, hb7⟩
      go_wp2_with fail
      refine (HS2.out _ hb7).mono ?_; rintro e w8 ⟨kA, kn, kc, rfl, hk, hkc, hb8, hown8⟩
      go_wp2_with fail
      go_meet
      have h8 : (w.heap.size + 2) < w6.heap.size := HA6.out.blk.lt
      have h7 := hb7.size
      have hRS : RS (fun i => i < w.heap.size + 3) w8 2 ⟨kA, kn, kc⟩ (fldCells (setS x_cl dv (setS x_dt date A.fs))) := ⟨hk, fun h1 a ha hb => by
        have h9 := (hown8.lt a.block (by simp only at ha; subst ha; rfl)).1
        have hb' : a.block < w.heap.size + 3 := hb
        omega, hkc⟩
      exact ⟨⟨kA, kn, kc⟩, rfl, by rw [HF.out]; exact hRS, hb7.trans hb8⟩
  case rest =>
  obtain ⟨⟨fA1, fn1, fc1⟩, rfl, hF1, hE7⟩ := hcut
  have HF1 := Lib.hid hF1; have HE67 := Lib.hid hE7
  clear hF1 hE7
  generalize wc = w7 at *
  have HA7 := Lib.hid (HA6.out.ext HE67.out)
  have s8 : w7.cell? ⟨(w.heap.size + 2), 8, none⟩ = some (.slice bA bn bc) := HA7.out.blk.cell 8
  simp only [Sl.v]
  go_wp2_with fail
  refine (cln_B ⟨bA, bn, bc⟩ (bytC A.body) w7 HA7.out.bd.rd (bytC_one _) (by have := HAB.out.bdy; have := HBn.out; simp only; omega)).mono ?_; rintro e w8 ⟨⟨cA, cn, cc⟩, rfl, hcn, hC, hb8, -⟩
  have HC := Lib.hid hC; have HE78 := Lib.hid hb8
  have HX8 := Lib.hid ((HX.out.keep Hk4.out (by omega)).ext (HE46.out.trans (HE67.out.trans hb8)))
  have HA8 := Lib.hid (HA7.out.ext hb8)
  clear s8 hcn hC hb8
  simp only [Sl.v]
  go_upto_region 13 with fail
  go_cut [74] (fun v wx => v = .bool (em || me.toList == [72, 69, 65, 68]) ∧ w8 = wx)
  case first =>
    have r0 : w8.cell? ⟨w.heap.size, 0, none⟩ = some (.string me) := HX8.out.cell 0
    cases em with
    | true =>
      go_wp2_with fail
      go_meet
      exact ⟨by simp, rfl⟩
    | false =>
      cases q : (me.toList == [72, 69, 65, 68])
      · go_wp2_with fail
        go_meet
        exact ⟨by simp [q], rfl⟩
      · go_wp2_with fail
        go_meet
        exact ⟨by simp [q], rfl⟩
  case rest =>
  obtain ⟨rfl, rfl⟩ := hcut
  obtain ⟨z, hz⟩ : ∃ z, (em || me.toList == [72, 69, 65, 68]) = z := ⟨_, rfl⟩
  rw [hz]
  have Hz := Lib.hid (show (emS A || me.toList == [72, 69, 65, 68]) = z by rw [Hem.out]; exact hz)
  clear hz
  go_upto_if 74 with fail
  go_cut [13] (fun v wx => ∃ s : Sl, v = s.v ∧ RS (fun i => i < w.heap.size + 3) wx 1 s (bytC (ansB A me)) ∧ w8 = wx)
  case first =>
    cases z with
    | true =>
      have HB := Lib.hid (show ansB A me = ⟨#[]⟩ by unfold ansB; rw [if_pos Hz.out])
      go_wp2_with fail
      go_meet
      exact ⟨sl0, rfl, by rw [HB.out]; exact RS.nil _ _ _, rfl⟩
    | false =>
      have HB := Lib.hid (show ansB A me = A.body by unfold ansB; rw [if_neg (by rw [Hz.out]; simp)])
      go_wp2_with fail
      go_meet
      have h8 : (w.heap.size + 2) < w7.heap.size := HA7.out.blk.lt
      exact ⟨⟨cA, cn, cc⟩, rfl, by
        rw [HB.out]
        exact HC.out.sub (fun i hi => by
          show i < w7.heap.size
          have hi' : i < w.heap.size + 3 := hi
          omega), rfl⟩
  case rest =>
  obtain ⟨⟨dA, dn, dc⟩, rfl, hD, rfl⟩ := hcut
  have HD := Lib.hid hD
  clear hD
  simp only [Sl.v]
  have hdn : (ansB A me).size = dn := by have := HD.out.len1; rw [bytC_len] at this; exact this
  have HKlo := Lib.hid (show (ansK A t1 me).lo = if A.status == 206 then A.lo else 0 from rfl)
  have HKhi := Lib.hid (show (ansK A t1 me).hi = if A.status == 206 then A.hi else (ansB A me).size from rfl)
  rw [hdn] at HKhi
  clear hdn
  have s1 : w8.cell? ⟨(w.heap.size + 2), 1, none⟩ = some (.int .i64 A.status) := HA8.out.blk.cell 1
  go_upto_if 80 with fail
  go_cut [8, 80] (fun v u wx => v = .pointer (some ⟨(w.heap.size + 2), 0, none⟩) ∧ Blk wx (w.heap.size + 2) 111 #[.int .i64 t1, .int .i64 A.status, .int .i64 A.version, .int .i64 A.variant, .string A.addr, .int .i64 (ansK A t1 me).lo, .int .i64 (ansK A t1 me).hi, .slice fA fn fc, .slice bA bn bc] ∧ Keeps (fun i => i = (w.heap.size + 2)) w8 wx)
  case first =>
    clear s1
    have hBk : Blk w8 (w.heap.size + 2) 111 #[.int .i64 t1, .int .i64 A.status, .int .i64 A.version, .int .i64 A.variant, .string A.addr, .int .i64 A.lo, .int .i64 A.hi, .slice fA fn fc, .slice bA bn bc] := HA8.out.blk
    by_cases h206 : A.status = 206
    · have HKlo := Lib.hid (HKlo.out.trans (if_pos (by rw [beq_iff_eq]; exact h206))); have HKhi := Lib.hid (HKhi.out.trans (if_pos (by rw [beq_iff_eq]; exact h206)))
      have q1 : (A.status == 206) = true := by rw [beq_iff_eq]; exact h206
      have q2 : (A.status != 206) = false := by simp [h206]
      clear h206
      have HBk := Lib.hid hBk
      clear hBk
      go_wp2_with fail
      go_meet
      exact ⟨rfl, by rw [HKlo.out, HKhi.out]; exact HBk.out, Keeps.refl _ _⟩
    · have HKlo := Lib.hid (HKlo.out.trans (if_neg (by rw [beq_iff_eq]; exact h206))); have HKhi := Lib.hid (HKhi.out.trans (if_neg (by rw [beq_iff_eq]; exact h206)))
      have q1 : (A.status == 206) = false := by rw [beq_eq_false_iff_ne]; exact h206
      have q2 : (A.status != 206) = true := by simp [h206]
      clear h206
      have HBk := Lib.hid hBk
      have k5 : w8.cell? ⟨(w.heap.size + 2), 5, none⟩ = some (.int .i64 A.lo) := hBk.cell 5
      have k6 : w8.cell? ⟨(w.heap.size + 2), 6, none⟩ = some (.int .i64 A.hi) := hBk.cell 6
      have f5 : w8.frozen? ⟨(w.heap.size + 2), 5, none⟩ = false := hBk.frozen 5
      have f6 : w8.frozen? ⟨(w.heap.size + 2), 6, none⟩ = false := hBk.frozen 6
      clear hBk
      go_wp2_with fail
      go_meet
      exact ⟨rfl, by rw [HKlo.out, HKhi.out]; exact (HBk.out.set_ 5 (.int .i64 0)).set_ 6 (.int .i64 (dn : Nat)), ((Keeps.refl (fun i => i = (w.heap.size + 2)) w8).set_ (b := (w.heap.size + 2)) rfl 5 _).set_ (b := (w.heap.size + 2)) rfl 6 _⟩
  case rest =>
  obtain ⟨rfl, hBk, hK9⟩ := hcut
  clear s1
  generalize wc = w9 at *
  have HE8 := Lib.hid (HE6.out.trans (HE67.out.trans HE78.out))
  have HKW := Lib.hid ((Hk4.out.trans (Keeps.of (HE46.out.trans (HE67.out.trans HE78.out)))).trans hK9)
  have HO9 := Lib.hid (HO.out w9 HKW.out)
  have HE9 := Lib.hid (HE8.out.keeps hK9 (fun i hi => by omega))
  have HBk := Lib.hid hBk
  have HY9 := Lib.hid (HY.out.keep HKW.out (by omega))
  have HF9 := Lib.hid ((HF1.out.ext HE78.out).keep hK9 (fun i hi => .inl (by show i < _; omega)))
  have HD9 := Lib.hid (HD.out.keep hK9 (fun i hi => .inl (by show i < _; omega)))
  have hpl9 : (w.heap.size + 2) < w9.heap.size := HBk.out.lt
  have HS17 := Lib.hid (fun w' (hx : Ext w9 w') => (⟨(HO9.out.blk.ext hx).cell 2, (HBk.out.ext hx).cell 0, (HBk.out.ext hx).cell 1, (HBk.out.ext hx).cell 2, (HBk.out.ext hx).cell 3, (HBk.out.ext hx).cell 4, (HBk.out.ext hx).cell 5, (HBk.out.ext hx).cell 6⟩ : w'.cell? ⟨p, 2, none⟩ = some (.slice lgA lgn lgc) ∧ w'.cell? ⟨(w.heap.size + 2), 0, none⟩ = some (.int .i64 t1) ∧ w'.cell? ⟨(w.heap.size + 2), 1, none⟩ = some (.int .i64 A.status) ∧ w'.cell? ⟨(w.heap.size + 2), 2, none⟩ = some (.int .i64 A.version) ∧ w'.cell? ⟨(w.heap.size + 2), 3, none⟩ = some (.int .i64 A.variant) ∧ w'.cell? ⟨(w.heap.size + 2), 4, none⟩ = some (.string A.addr) ∧ w'.cell? ⟨(w.heap.size + 2), 5, none⟩ = some (.int .i64 (ansK A t1 me).lo) ∧ w'.cell? ⟨(w.heap.size + 2), 6, none⟩ = some (.int .i64 (ansK A t1 me).hi)))
  clear hBk hK9
  go_upto_region 17 with fail
  have hL := (Ext.refl w9).drew
  refine wp_region_U (S := (fun w' => w'.cell? ⟨p, 2, none⟩ = some (.slice lgA lgn lgc) ∧ w'.cell? ⟨(w.heap.size + 2), 0, none⟩ = some (.int .i64 t1) ∧ w'.cell? ⟨(w.heap.size + 2), 1, none⟩ = some (.int .i64 A.status) ∧ w'.cell? ⟨(w.heap.size + 2), 2, none⟩ = some (.int .i64 A.version) ∧ w'.cell? ⟨(w.heap.size + 2), 3, none⟩ = some (.int .i64 A.variant) ∧ w'.cell? ⟨(w.heap.size + 2), 4, none⟩ = some (.string A.addr) ∧ w'.cell? ⟨(w.heap.size + 2), 5, none⟩ = some (.int .i64 (ansK A t1 me).lo) ∧ w'.cell? ⟨(w.heap.size + 2), 6, none⟩ = some (.int .i64 (ansK A t1 me).hi))) 10 (by kernel_rfl) ?_ (fun hHeld => ?_)
  · (try dsimp only); exact HS17.out _ hL
  refine wpAnyU_takeW (i := 0) (oi := { dst := some 88, op := _, type := _, pos := _, after := _, guard := _ }) (v := ?_) (by kernel_rfl) rfl (by kernel_rfl) (by kernel_rfl) (by kernel_rfl) (fun _ _ _ h => h) (Or.inl ⟨by rfl, ?_⟩) (by assumption) ?_
  rotate_left
  · (intro w hSw; (try dsimp only at hSw); go_simp; (try with_reducible rfl))
  (try simp only [Act.put, List.setIfInBounds_toArray, List.set_cons_zero, List.set_cons_succ])
  refine wpAnyU_takeW (i := 1) (oi := { dst := some 89, op := _, type := _, pos := _, after := _, guard := _ }) (v := ?_) (by kernel_rfl) rfl (by kernel_rfl) (by kernel_rfl) (by kernel_rfl) (fun _ _ _ h => h) (Or.inl ⟨by rfl, ?_⟩) (by assumption) ?_
  rotate_left
  · (intro w hSw; (try dsimp only at hSw); go_simp; (try with_reducible rfl))
  (try simp only [Act.put, List.setIfInBounds_toArray, List.set_cons_zero, List.set_cons_succ])
  refine wpAnyU_takeW (i := 2) (oi := { dst := some 90, op := _, type := _, pos := _, after := _, guard := _ }) (v := ?_) (by kernel_rfl) rfl (by kernel_rfl) (by kernel_rfl) (by kernel_rfl) (fun _ _ _ h => h) (Or.inl ⟨by rfl, ?_⟩) (by assumption) ?_
  rotate_left
  · (intro w hSw; (try dsimp only at hSw); go_simp; (try with_reducible rfl))
  (try simp only [Act.put, List.setIfInBounds_toArray, List.set_cons_zero, List.set_cons_succ])
  refine wpAnyU_takeW (i := 3) (oi := { dst := some 91, op := _, type := _, pos := _, after := _, guard := _ }) (v := ?_) (by kernel_rfl) rfl (by kernel_rfl) (by kernel_rfl) (by kernel_rfl) (fun _ _ _ h => h) (Or.inl ⟨by rfl, ?_⟩) (by assumption) ?_
  rotate_left
  · (intro w hSw; (try dsimp only at hSw); go_simp; (try with_reducible rfl))
  (try simp only [Act.put, List.setIfInBounds_toArray, List.set_cons_zero, List.set_cons_succ])
  refine wpAnyU_take (i := 4) (oi := { dst := some 92, op := _, type := _, pos := _, after := _, guard := _ }) (v := ?_) [10, 11, 12, 13] (by kernel_rfl) (by kernel_rfl) (by kernel_rfl) (by kernel_rfl) rfl (by kernel_rfl) (by kernel_rfl) (by kernel_rfl) (fun _ _ _ h => h) (Or.inl ⟨by rfl, ?_⟩) (by assumption) ?_
  rotate_left
  · (intro w hSw; (try dsimp only at hSw); go_simp; (try with_reducible rfl))
  (try simp only [Act.put, List.setIfInBounds_toArray, List.set_cons_zero, List.set_cons_succ])
  refine wpAnyU_takeW (i := 5) (oi := { dst := some 93, op := _, type := _, pos := _, after := _, guard := _ }) (v := ?_) (by kernel_rfl) rfl (by kernel_rfl) (by kernel_rfl) (by kernel_rfl) (fun _ _ _ h => h) (Or.inl ⟨by rfl, ?_⟩) (by assumption) ?_
  rotate_left
  · (intro w hSw; (try dsimp only at hSw); go_simp; (try with_reducible rfl))
  (try simp only [Act.put, List.setIfInBounds_toArray, List.set_cons_zero, List.set_cons_succ])
  refine wpAnyU_takeW (i := 6) (oi := { dst := some 94, op := _, type := _, pos := _, after := _, guard := _ }) (v := ?_) (by kernel_rfl) rfl (by kernel_rfl) (by kernel_rfl) (by kernel_rfl) (fun _ _ _ h => h) (Or.inl ⟨by rfl, ?_⟩) (by assumption) ?_
  rotate_left
  · (intro w hSw; (try dsimp only at hSw); go_simp; (try with_reducible rfl))
  (try simp only [Act.put, List.setIfInBounds_toArray, List.set_cons_zero, List.set_cons_succ])
  refine wpAnyU_takeW (i := 7) (oi := { dst := some 95, op := _, type := _, pos := _, after := _, guard := _ }) (v := ?_) (by kernel_rfl) rfl (by kernel_rfl) (by kernel_rfl) (by kernel_rfl) (fun _ _ _ h => h) (Or.inl ⟨by rfl, ?_⟩) (by assumption) ?_
  rotate_left
  · (intro w hSw; (try dsimp only at hSw); go_simp; (try with_reducible rfl))
  (try simp only [Act.put, List.setIfInBounds_toArray, List.set_cons_zero, List.set_cons_succ])
  refine wpAnyU_take (i := 8) (oi := { dst := some 96, op := _, type := _, pos := _, after := _, guard := _ }) (v := ?_) [9, 10, 11, 12, 13] (by kernel_rfl) (by kernel_rfl) (by kernel_rfl) (by kernel_rfl) rfl (by kernel_rfl) (by kernel_rfl) (by kernel_rfl) (fun _ _ _ h => h) (Or.inl ⟨by rfl, ?_⟩) (by assumption) ?_
  rotate_left
  · (intro w hSw; (try dsimp only at hSw); go_simp; (try with_reducible rfl))
  (try simp only [Act.put, List.setIfInBounds_toArray, List.set_cons_zero, List.set_cons_succ])
  refine wpAnyU_ready (rs := [9]) (by kernel_rfl) (by simp) ?_
  refine AllReadyU.cons (o := { dst := some 97, op := _, type := _, pos := _, after := _, guard := _ }) rfl (fun K hK => ?_) AllReadyU.nil
  go_simp
  replace hL := hL.alloc (.cells #[.int .i64 t1, .int .i64 A.status, .int .i64 A.version, .int .i64 A.variant, .string A.addr, .int .i64 (ansK A t1 me).lo, .int .i64 (ansK A t1 me).hi] 109)
  try go_wp2_with fail
  refine hK.out _ _ ?_ (fun hHeld => ?_)
  · (try dsimp only); exact HS17.out _ hL
  clear hK K
  (try simp only [Act.put, List.setIfInBounds_toArray, List.set_cons_zero, List.set_cons_succ])
  refine wpAnyU_ready (rs := [10]) (by kernel_rfl) (by simp) ?_
  refine AllReadyU.stop (o := { dst := some 98, op := _, type := _, pos := _, after := _, guard := _ }) rfl (by kernel_rfl) (fun K hK => ?_) AllReadyU.nil
  refine step_appO _ rfl (.tmp 92) (.tmp 97) 72 rfl 109 _ 7 64 Tryz.underlying72 info_cln_K (by simp [Value.cells]) (by decide) _ _ _ rfl (own_ext HO9.out.lg hL) _ 1 1 (akdC (ansK A t1 me)) rfl (Rd.lit _ _ _ rfl 7 1 rfl) (by have := akdC_one [ansK A t1 me]; simpa using this) (by omega) (by decide) ?_; intro A6 c6 w10 hown10 hle10 hg10 hn10
  refine hK.out _ _ ?_ (fun hHeld => ?_)
  · (try dsimp only); (try trivial)
  clear hK K
  (try simp only [Act.put, List.setIfInBounds_toArray, List.set_cons_zero, List.set_cons_succ])
  refine wpAnyH_take (i := 11) (oi := { dst := some 99, op := _, type := _, pos := _, after := _, guard := _ }) (v := ?_) rfl (by kernel_rfl) (by kernel_rfl) (by kernel_rfl) (fun _ _ _ h => h) (Or.inl ⟨by rfl, ?_⟩) (by assumption) ?_
  rotate_left
  · (intro w hSw; (try dsimp only at hSw); go_simp; (try with_reducible rfl))
  (try simp only [Act.put, List.setIfInBounds_toArray, List.set_cons_zero, List.set_cons_succ])
  refine wpAnyH_take (i := 12) (oi := { dst := some 100, op := _, type := _, pos := _, after := _, guard := _ }) (v := ?_) rfl (by kernel_rfl) (by kernel_rfl) (by kernel_rfl) (fun _ _ _ h => h) (Or.inl ⟨by rfl, ?_⟩) (by assumption) ?_
  rotate_left
  · (intro w hSw; (try dsimp only at hSw); go_simp; (try with_reducible rfl))
  (try simp only [Act.put, List.setIfInBounds_toArray, List.set_cons_zero, List.set_cons_succ])
  refine wpAnyH_ready (rs := [13]) (by kernel_rfl) (by simp) ?_
  refine AllReadyH.cons (o := { dst := none, op := _, type := _, pos := _, after := _, guard := _ }) rfl (fun K hK => ?_) AllReadyH.nil
  have hOx := HO9.out.ext hL; have hPb := hOx.blk.grown hg10 (Ne.symm (own_blk hOx.lg hOx.blk (by decide))); have kp := hPb.cell 2; have fp := hPb.frozen 2; clear hOx hPb; (simp only [Sl.v] at kp)
  go_simp
  try go_wp2_with fail
  refine hK.out _ _ ?_ (fun hHeld => ?_)
  · (try dsimp only); (try trivial)
  clear hK K
  (try simp only [Act.put, List.setIfInBounds_toArray, List.set_cons_zero, List.set_cons_succ])
  refine wpAnyH_done (by kernel_rfl) ?_ _
  clear kp fp
  have hOa := HO9.out.ext hL
  obtain ⟨hO2, hK2⟩ := hOa.addL (x := ansK A t1 me) hown10 hg10 hn10
  have HO2 := Lib.hid hO2; have HK2 := Lib.hid hK2; have Hn10 := Lib.hid hn10; have HLa := Lib.hid hL
  have HBf := Lib.hid ((HBk.out.ext hL).keep hK2 HPl.out)
  have HYf := Lib.hid ((HY9.out.ext hL).keep hK2 (fun h => by have := Hlow.out _ h; omega))
  have HNew := Lib.hid (show ∀ i, (Value.slice A6 (o.lg.length + 1) c6).ownBlock = some i → R i ∨ w9.heap.size ≤ i from fun i hi => hn10.elim (fun e => .inl (Hrl.out i (by rw [e] at hi; exact hi))) (fun e => .inr (by rw [e] at hi; injection hi with hi; have h9 := hL.size; rw [← hi]; exact h9)))
  have HFb := Lib.hid (((HF9.out.ext hL).more (Q' := fun i => i < w.heap.size + 3 ∨ (Value.slice A6 (o.lg.length + 1) c6).ownBlock = some i) (fun i hi => hi.elim .inl (fun hi => hn10.elim (fun e => .inl (by rw [e] at hi; have := Hlow.out i (Hrl.out i hi); show i < _; omega)) (fun e => .inr (by rw [e] at hi; injection hi with hi; rw [← hi]; exact Nat.le_refl _))))).keep hK2 (fun i hi => .inl (.inl (by have := Hlow.out i hi; show i < _; omega))))
  have HDb := Lib.hid (((HD9.out.ext hL).more (Q' := fun i => i < w.heap.size + 3 ∨ (Value.slice A6 (o.lg.length + 1) c6).ownBlock = some i) (fun i hi => hi.elim .inl (fun hi => hn10.elim (fun e => .inl (by rw [e] at hi; have := Hlow.out i (Hrl.out i hi); show i < _; omega)) (fun e => .inr (by rw [e] at hi; injection hi with hi; rw [← hi]; exact Nat.le_refl _))))).keep hK2 (fun i hi => .inl (.inl (by have := Hlow.out i hi; show i < _; omega))))
  have HKF := Lib.hid ((Keeps.of (S := R) (HE9.out.trans hL)).trans hK2)
  have HOF := Lib.hid (hO2.more (Q' := fun i => Q i ∨ w.heap.size ≤ i) (fun i hi => .inl (.inl hi)) (fun b hb => hb.elim (fun h => .inl (Hrq.out b h)) (fun h => (HNew.out b h).elim (fun h => .inl (Hrq.out b h)) (fun h => .inr (by omega)))))
  clear hOa hO2 hK2 hn10 hown10 hg10 hL HO2 HK2 Hn10 HLa
  generalize (w10.setCell ⟨p, 2, none⟩ (.slice A6 (o.lg.length + 1) c6)) = wF at *
  have s1 : wF.cell? ⟨(w.heap.size + 2), 1, none⟩ = some (.int .i64 A.status) := HBf.out.cell 1
  go_wp2_with (first | (refine wpList_storeB rfl 38 (.tmp 6) (.tmp 107) rfl rfl (w.heap.size + 1) _ rfl rfl 38 _ HYf.out infoRsp rfl (by simp [Value.oneCell']) ?_; intro w12 hB12 hx12))
  have y0 : w12.cell? ⟨w.heap.size + 1, 0, none⟩ = some (.int .i64 A.status) := hB12.cell 0
  have y1 : w12.cell? ⟨w.heap.size + 1, 1, none⟩ = some (.slice fA1 fn1 fc1) := hB12.cell 1
  refine bodyPost_ret (v := .tuple #[.agg #[.int .i64 A.status, .slice fA1 fn1 fc1], .slice dA dn dc]) (by simp [results, Tryz.results15, go_sem, y0, y1]) rfl ?_
  have KX : Keeps (fun i => i = w.heap.size + 1) wF w12 := Keeps.grown (Keeps.refl _ wF) hx12 (fun b hb => .inl (by injection hb with hb; exact hb.symm))
  have hNo : ∀ i, i = w.heap.size + 1 → ¬ Rplus R (Value.slice A6 (o.lg.length + 1) c6) i := fun i hi hR => hR.elim (fun h => by have := Hlow.out i h; omega) (fun h => (HNew.out i h).elim (fun h => by have := Hlow.out i h; omega) (fun h => by omega))
  have hSub : ∀ i, (i < w.heap.size ∨ Rplus R (Value.slice A6 (o.lg.length + 1) c6) i) → (i < w.heap.size + 3 ∨ (Value.slice A6 (o.lg.length + 1) c6).ownBlock = some i) := fun i hi => hi.elim (fun h => .inl (by omega)) (fun h => h.elim (fun h => .inl (by have := Hlow.out i h; omega)) .inr)
  refine ⟨⟨fA1, fn1, fc1⟩, ⟨dA, dn, dc⟩, rfl, Rplus R (Value.slice A6 (o.lg.length + 1) c6), ⟨_, HOF.out.keeps KX (fun i hi => ⟨hNo i hi, .inr (by omega)⟩)⟩, (HFb.out.keep KX (fun i hi => .inl (.inl (by omega)))).sub hSub, (HDb.out.keep KX (fun i hi => .inl (.inl (by omega)))).sub hSub, HKF.out.then KX (fun i hi => .inr (by omega)), fun _ h => .inl h, fun i hi => ?_⟩
  exact hi.elim .inl (fun h => (HNew.out i h).elim .inl (fun h => .inr (by omega)))
end Go.Proofs.YtmckbcbdnckngaaGreatDoor
