/- The walk of PolicyValidators: it returns true. The walk of PolicyLater: it returns true. The walk of PolicyPlain: it returns true. The walks of clock.rate, Read, quaysideref12.Ppm, of the law package's moments, and of PolicyTruth: it returns true. -/
import Derived.Test.YtocniclkooiggaaDoorJ3
set_option linter.unusedSimpArgs false
set_option linter.unusedVariables false
namespace Go.Proofs.YtocniclkooiggaaDoor
open Go.RowKit

theorem yield_loadG {P : Program} {ops : Array Oper} {o : Oper} {a : Act} {S : World → Prop} (hw : Region.wanted o (yielded ops a.tmps) = true) (ty : TypeId) (x : Operand) (ho : o.op = .load ty x)
    (g : Nat) (hx : a.eval x = .pointer (some ⟨g, 0, none⟩)) (t : TypeId) (cs : Array Value) (hg : ∀ w, S w → Blk w g t cs) (fs : Array Field)
    (hu : P.underlying ty = some (.struct fs)) (hi : (P.info? ty).map (·.size) = some cs.size) : YieldsIf P ops S o (.agg cs) a := by
  refine .inl ⟨hw, fun w hS => ?_⟩
  unfold execOp
  simp only [ho, hx, Instr.loadAt, Instr.sureAddr, Sem.run_bind, Sem.run_pure, Result.andThen_ok, run_loadVar_row w g t ty cs (0, 0) _ (hg w hS) hu rfl hi]
theorem oe_same {st : Int} {fs : List Fd} {tm : Tm} {now ppm : Int} : oeS ⟨st, fs, tm, false⟩ now ppm = oeS ⟨st, fs, tm, true⟩ now ppm := rfl
theorem lm_same {st : Int} {fs : List Fd} {tm : Tm} : lmS ⟨st, fs, tm, false⟩ = lmS ⟨st, fs, tm, true⟩ := rfl

set_option maxHeartbeats 16000000 in
set_option maxRecDepth 100000 in
theorem validators_walk (st : Int) (A : Option Addr) (n c : Nat) (fs : List Fd) (se re ag : Int) (hv : Bool) (q : D) (now ppm : Int) (w : World) (hf : RdF w A n fs) (hbk : fs.length + sumF fs ≤ 1048576) (hg : GlH w) (hgl : Gl w) :
    Calls Tryd.prog 6 #[.agg #[.int .i64 st, .slice A n c, .int .i64 se, .int .i64 re, .int .i64 ag, .bool hv], .agg (dArr q), .agg #[.int .i64 now, .int .i64 ppm]] w fun e w' => e = .returned (.bool true) ∧ Ext w w' := by
  have HBs := Lib.hid (((Blk.new w 60 #[.int .i64 st, .slice A n c, .int .i64 se, .int .i64 re, .int .i64 ag, .bool hv]).alloc (.cells (dArr q) 61)).alloc (.cells #[.int .i64 now, .int .i64 ppm] 63))
  have HBq := Lib.hid ((show Blk ((w.alloc (.cells #[.int .i64 st, .slice A n c, .int .i64 se, .int .i64 re, .int .i64 ag, .bool hv] 60)).alloc (.cells (dArr q) 61)) (w.heap.size + 1) 61 (dArr q) by
    have h := Blk.new (w.alloc (.cells #[.int .i64 st, .slice A n c, .int .i64 se, .int .i64 re, .int .i64 ag, .bool hv] 60)) 61 (dArr q)
    rw [World.size_alloc] at h; exact h).alloc (.cells #[.int .i64 now, .int .i64 ppm] 63))
  have HBm := Lib.hid (show Blk (((w.alloc (.cells #[.int .i64 st, .slice A n c, .int .i64 se, .int .i64 re, .int .i64 ag, .bool hv] 60)).alloc (.cells (dArr q) 61)).alloc (.cells #[.int .i64 now, .int .i64 ppm] 63)) (w.heap.size + 1 + 1) 63 #[.int .i64 now, .int .i64 ppm] by
    have h := Blk.new ((w.alloc (.cells #[.int .i64 st, .slice A n c, .int .i64 se, .int .i64 re, .int .i64 ag, .bool hv] 60)).alloc (.cells (dArr q) 61)) 63 #[.int .i64 now, .int .i64 ppm]
    rw [World.size_alloc, World.size_alloc] at h; exact h)
  have HE := Lib.hid ((((Ext.refl w).alloc (.cells #[.int .i64 st, .slice A n c, .int .i64 se, .int .i64 re, .int .i64 ag, .bool hv] 60)).alloc (.cells (dArr q) 61)).alloc (.cells #[.int .i64 now, .int .i64 ppm] 63))
  have Hjv := Lib.hid (jdS_valid ⟨st, fs, ⟨se, re, ag⟩, hv⟩ q now ppm)
  go_enter Tryd.func6, Tryd.ntmps6
  go_wp2_with fail
  generalize ((w.alloc (.cells #[.int .i64 st, .slice A n c, .int .i64 se, .int .i64 re, .int .i64 ag, .bool hv] 60)).alloc (.cells (dArr q) 61)).alloc (.cells #[.int .i64 now, .int .i64 ppm] 63) = W0 at *
  generalize hbq : w.heap.size = b at *
  refine (law17_large A n c fs _ (hf.ext HE.out) hbk).mono ?_; rintro e w1 ⟨rfl, hb1⟩
  cases hlg : lg17 fs
  rotate_left
  · have s1 := (HBs.out.ext hb1).cell 1
    go_wp2_with fail
    refine (law17_large A n c fs _ (hf.ext (HE.out.trans hb1)) hbk).mono ?_; rintro e w2 ⟨rfl, hb2⟩
    rw [hlg]
    go_wp2_with fail
    go_ret
    exact ⟨rfl, HE.out.trans (hb1.trans hb2)⟩
  have Hs := Lib.hid (lg_no17 hlg)
  have Hbs := Lib.hid ((bsz_of_sumF fs).mono (show sumF fs ≤ 1048576 by omega))
  have hn : n ≤ 3000 := by have := hf.lenF; have := Hs.out; omega
  have Hm := Lib.hid hn
  clear hlg hbk hn
  go_wp2_with fail
  refine (law17_awake _ (hg.ext (HE.out.trans hb1)) (hgl.ext (HE.out.trans hb1))).mono ?_; rintro e w2 ⟨rfl, hb2⟩
  have HW2 := Lib.hid (hb1.trans hb2)
  clear hb1 hb2
  have HQ2 := Lib.hid (HBq.out.ext HW2.out)
  go_wp2_with (first
    | (refine wpList_loadB rfl 61 (.tmp 4) rfl (b + 1) rfl 61 _ HQ2.out _ Tryd.underlying61 infoD ?_))
  refine (law_Program q _).mono ?_; rintro e w3 ⟨rfl, hb3⟩
  have HW3 := Lib.hid (HW2.out.trans hb3)
  clear hb3 HQ2
  go_wp2_with (first
    | (refine wpList_storeB rfl 50 (.tmp 7) (.tmp 23) rfl rfl w3.heap.size _ rfl rfl 50 _ (Blk.new w3 _ _) infoDp rfl (dArr_one q) ?_; intro W5 hN5 hX5))
  have hb5 := ((Ext.refl w3).alloc (.cells (dArr zeroD) 50)).growB hX5 (Nat.le_refl _)
  have HW5 := Lib.hid (HW3.out.trans hb5)
  have HN5 := Lib.hid hN5
  have HS5 := Lib.hid (HBs.out.ext HW5.out)
  have HM5 := Lib.hid (HBm.out.ext HW5.out)
  clear hb5 hN5 hX5 HW3 HW2 HBs HBm HBq
  generalize w3.heap.size = gq at *
  have hE := (Ext.refl W5).drew
  have HSt := Lib.hid (fun w' (h : Ext W5 w') => law17_Stored st A n c fs se re ag hv w' (hf.ext ((HE.out.trans HW5.out).trans h)) (by have := Hm.out; omega))
  refine wp_region_held_drew (S := (fun w' => Blk w' b 60 #[.int .i64 st, .slice A n c, .int .i64 se, .int .i64 re, .int .i64 ag, .bool hv])) (by kernel_rfl) ?_ (fun hHeld => ?_)
  · (try dsimp only); exact (HS5.out.ext hE)
  refine wpAnyH_take (i := 0) (oi := { dst := some 24, op := _, type := _, pos := _, after := _, guard := _ }) (v := .agg #[.int .i64 st, .slice A n c, .int .i64 se, .int .i64 re, .int .i64 ag, .bool hv]) rfl (by kernel_rfl) (by kernel_rfl) (by kernel_rfl) (fun _ _ _ h => h) (yield_loadB rfl 60 (.tmp 3) rfl (b) rfl 60 _ (fun w h => h) _ Tryd.underlying60 infoRs) (by assumption) ?_
  (try simp only [Act.put, List.setIfInBounds_toArray, List.set_cons_zero, List.set_cons_succ])
  refine wpAnyH_take (i := 2) (oi := { dst := some 26, op := _, type := _, pos := _, after := _, guard := _ }) (v := .agg #[.int .i64 st, .slice A n c, .int .i64 se, .int .i64 re, .int .i64 ag, .bool hv]) rfl (by kernel_rfl) (by kernel_rfl) (by kernel_rfl) (fun _ _ _ h => h) (yield_loadB rfl 60 (.tmp 3) rfl (b) rfl 60 _ (fun w h => h) _ Tryd.underlying60 infoRs) (by assumption) ?_
  (try simp only [Act.put, List.setIfInBounds_toArray, List.set_cons_zero, List.set_cons_succ])
  refine (wpAnyH_inv (I := (fun m listed a w1 => ∃ (k : Nat) (ba bb : Bool) (ga gb : Nat) (va vb vx vy : Value) (A2 : Option Addr) (c2 : Nat) (A3 : Option Addr) (c3 : Nat), m = (2 - k) + (bif ba then 0 else 1) + (bif bb then 0 else 1) ∧ k ≤ 2 ∧ listed = #[true, decide (1 ≤ k), true, decide (2 ≤ k), ba, bb, false, false] ∧ a = { tmps := #[.agg #[.int .i64 st, .slice A n c, .int .i64 se, .int .i64 re, .int .i64 ag, .bool hv], .agg (dArr q), .agg #[.int .i64 now, .int .i64 ppm], .pointer (some ⟨b, 0, none⟩), .pointer (some ⟨b + 1, 0, none⟩), .pointer (some ⟨b + 1 + 1, 0, none⟩), .bool false, .pointer (some ⟨gq, 0, none⟩), va, vb, undef, undef, .pointer (some ⟨b, 1, none⟩), .slice A n c, .bool false, .bool false, .bool true, .bool false, .bool false, undef, undef, undef, .agg (dArr q), .agg (dArr q), .agg #[.int .i64 st, .slice A n c, .int .i64 se, .int .i64 re, .int .i64 ag, .bool hv], vx, .agg #[.int .i64 st, .slice A n c, .int .i64 se, .int .i64 re, .int .i64 ag, .bool hv], vy, undef, undef, undef, undef, undef, undef, undef, undef, undef, undef, undef, undef, undef, undef, undef, undef, undef, undef, undef, undef, undef, undef, undef, undef, undef, undef, undef, undef, undef, undef, undef, undef, undef, undef, undef, undef, undef, undef, undef, undef, undef, undef, undef, undef, undef, undef, undef, undef, undef, undef, undef, undef, undef], defers := [] } ∧ Ext W5 w1 ∧
      (1 ≤ k → vx = .agg #[.int .i64 st, .slice A2 n c2, .int .i64 se, .int .i64 re, .int .i64 ag, .bool hv] ∧ RdF w1 A2 n fs) ∧ (2 ≤ k → vy = .agg #[.int .i64 st, .slice A3 n c3, .int .i64 se, .int .i64 re, .int .i64 ag, .bool hv] ∧ RdF w1 A3 n fs) ∧
      (ba = true → va = .pointer (some ⟨ga, 0, none⟩) ∧ Blk w1 ga 34 #[.int .i64 0, .slice none 0 0, .int .i64 0, .int .i64 0, .int .i64 0, .bool false] ∧ W5.heap.size ≤ ga) ∧ (bb = true → vb = .pointer (some ⟨gb, 0, none⟩) ∧ Blk w1 gb 34 #[.int .i64 0, .slice none 0 0, .int .i64 0, .int .i64 0, .int .i64 0, .bool false] ∧ W5.heap.size ≤ gb) ∧
      (ba = true → bb = true → ga ≠ gb) ∧ (1 ≤ k → ba = true → 0 < n → ∀ a, A2 = some a → a.block ≠ ga) ∧ (1 ≤ k → bb = true → 0 < n → ∀ a, A2 = some a → a.block ≠ gb) ∧ (2 ≤ k → ba = true → 0 < n → ∀ a, A3 = some a → a.block ≠ ga) ∧ (2 ≤ k → bb = true → 0 < n → ∀ a, A3 = some a → a.block ≠ gb))) 2 ?_ ?_ 4 _ _ _ ?_ : _)
  rotate_left 2
  · exact ⟨0, false, false, 0, 0, undef, undef, undef, undef, none, 0, none, 0, rfl, by decide, rfl, rfl, hE, (fun h => by omega), (fun h => by omega), (fun h => by cases h), (fun h => by cases h), (fun h => by cases h), (fun _ h => by cases h), (fun _ h => by cases h), (fun _ h => by cases h), (fun _ h => by cases h)⟩
  · rintro listed a w1 ⟨k, ba, bb, ga, gb, va, vb, vx, vy, A2, c2, A3, c3, hn, hc, rfl, rfl, hE1, kx, ky, ka, kb, dab, sxa, sxb, sya, syb⟩
    obtain ⟨rfl, rfl, rfl⟩ : k = 2 ∧ ba = true ∧ bb = true := by cases ba <;> cases bb <;> simp at hn ⊢ <;> omega
    obtain ⟨rfl, hx1⟩ := kx (by decide)
    obtain ⟨rfl, hy1⟩ := ky (by decide)
    obtain ⟨rfl, hba, hwa⟩ := ka rfl
    obtain ⟨rfl, hbb, hwb⟩ := kb rfl
    have hab := dab rfl rfl
    have Sxa := Lib.hid (sxa (by decide) rfl); have Sxb := Lib.hid (sxb (by decide) rfl)
    have Sya := Lib.hid (sya (by decide) rfl); have Syb := Lib.hid (syb (by decide) rfl)
    clear kx ky ka kb dab hn hc hE sxa sxb sya syb
    refine wpAnyH_ready (rs := [6]) (by kernel_rfl) (by simp) ?_
    refine AllReadyH.cons (o := { dst := none, op := _, type := _, pos := _, after := _, guard := _ }) rfl (fun K hK => ?_) AllReadyH.nil
    refine step_storeB rfl 34 (.tmp 8) (.tmp 25) rfl rfl ga _ rfl rfl 34 _ hba infoSt rfl (by simp [Value.oneCell']) ?_; intro w4 hNga hXga
    replace hE1 := hE1.growB hXga hwa
    replace hbb := hbb.grown hXga (by simp; omega)
    replace hx1 := Rd.growZ hx1 hXga Sxa.out
    replace hy1 := Rd.growZ hy1 hXga Sya.out
    refine hK.out _ _ (HS5.out.ext hE1) (fun hHeld => ?_)
    clear hK K
    (try simp only [Act.put, List.setIfInBounds_toArray, List.set_cons_zero, List.set_cons_succ])
    refine wpAnyH_ready (rs := [7]) (by kernel_rfl) (by simp) ?_
    refine AllReadyH.cons (o := { dst := none, op := _, type := _, pos := _, after := _, guard := _ }) rfl (fun K hK => ?_) AllReadyH.nil
    refine step_storeB rfl 34 (.tmp 9) (.tmp 27) rfl rfl gb _ rfl rfl 34 _ hbb infoSt rfl (by simp [Value.oneCell']) ?_; intro w9 hNgb hXgb
    replace hE1 := hE1.growB hXgb hwb
    replace hNga := hNga.grown hXgb (by simp; omega)
    replace hx1 := Rd.growZ hx1 hXgb Sxb.out
    replace hy1 := Rd.growZ hy1 hXgb Syb.out
    refine hK.out _ _ (HS5.out.ext hE1) (fun hHeld => ?_)
    clear hK K
    (try simp only [Act.put, List.setIfInBounds_toArray, List.set_cons_zero, List.set_cons_succ])
    refine wpAnyH_done (by kernel_rfl) ?_ _
    have HE9 := Lib.hid hE1; have HA9 := Lib.hid hNga; have HB9 := Lib.hid hNgb; have Hw9 := Lib.hid (⟨hab, hwa, hwb⟩ : _ ∧ _ ∧ _)
    have HX9 := Lib.hid hx1
    have HY9 := Lib.hid hy1
    have Sp2 := Lib.hid (⟨Sxa.out, Sxb.out⟩ : _ ∧ _)
    have Sp3 := Lib.hid (⟨Sya.out, Syb.out⟩ : _ ∧ _)
    clear hE1 hNga hNgb hab hwa hwb hx1 hy1 hXga hXgb hbb hba hHeld Sxa Sxb Sya Syb
    obtain ⟨hab, hwa, hwb⟩ := Hw9.out
    have hfa := HA9.out.frozen
    have ca : w9.cell? ⟨ga, 5, none⟩ = some (.bool hv) := HA9.out.cell 5
    have HA10 := Lib.hid (show Blk (w9.setCell ⟨ga, 5, none⟩ (.bool true)) ga 34 #[.int .i64 st, .slice A2 n c2, .int .i64 se, .int .i64 re, .int .i64 ag, .bool true] from HA9.out.set_ 5 (.bool true))
    have hx10 := (ExtB.refl ga w9).set_ 5 (.bool true)
    have HB10 := Lib.hid (HB9.out.grown hx10 (by simp; omega))
    have hfb := HB10.out.frozen
    have cb : (w9.setCell ⟨ga, 5, none⟩ (.bool true)).cell? ⟨gb, 5, none⟩ = some (.bool hv) := HB10.out.cell 5
    have HB11 := Lib.hid (show Blk ((w9.setCell ⟨ga, 5, none⟩ (.bool true)).setCell ⟨gb, 5, none⟩ (.bool false)) gb 34 #[.int .i64 st, .slice A3 n c3, .int .i64 se, .int .i64 re, .int .i64 ag, .bool false] from HB10.out.set_ 5 (.bool false))
    have hx11 := (ExtB.refl gb (w9.setCell ⟨ga, 5, none⟩ (.bool true))).set_ 5 (.bool false)
    have HA11 := Lib.hid (HA10.out.grown hx11 (by simp; omega))
    have HE11 := Lib.hid ((HE9.out.growB hx10 hwa).growB hx11 hwb)
    have HX11 := Lib.hid (Rd.growZ (Rd.growZ HX9.out hx10 Sp2.out.1) hx11 Sp2.out.2)
    have HY11 := Lib.hid (Rd.growZ (Rd.growZ HY9.out hx10 Sp3.out.1) hx11 Sp3.out.2)
    clear hx10 hx11
    go_wp2_with fail
    clear hfa ca hfb cb HA9 HB9 HA10 HB10
    generalize (w9.setCell ⟨ga, 5, none⟩ (.bool true)).setCell ⟨gb, 5, none⟩ (.bool false) = w11 at *
    have HM := Lib.hid (HM5.out.ext HE11.out); have HQ := Lib.hid (HN5.out.ext HE11.out); have HA := Lib.hid HA11.out; have HB := Lib.hid HB11.out; have HX := Lib.hid HX11.out; have HY := Lib.hid HY11.out
    have HZ := Lib.hid ((HE.out.trans HW5.out).trans HE11.out)
    clear HA11 HB11 HX11 HY11 HE9 HE11 HN5 HM5 HS5 HSt
    have hE := (Ext.refl w11).drew
    refine wp_region_held_drew (S := (fun w' => Blk w' ga 34 #[.int .i64 st, .slice A2 n c2, .int .i64 se, .int .i64 re, .int .i64 ag, .bool true] ∧ Blk w' gb 34 #[.int .i64 st, .slice A3 n c3, .int .i64 se, .int .i64 re, .int .i64 ag, .bool false] ∧ Blk w' gq 50 (dArr q) ∧ Blk w' (b + 1 + 1) 63 #[.int .i64 now, .int .i64 ppm] ∧ w'.cell? ⟨b + 1 + 1, 0, none⟩ = some (.int .i64 now) ∧ w'.cell? ⟨b + 1 + 1, 1, none⟩ = some (.int .i64 ppm))) (by kernel_rfl) ?_ (fun hHeld => ?_)
    · (try dsimp only); exact ⟨HA.out.ext hE, HB.out.ext hE, HQ.out.ext hE, HM.out.ext hE, (HM.out.ext hE).cell 0, (HM.out.ext hE).cell 1⟩
    refine wpAnyH_take (i := 0) (oi := { dst := some 30, op := _, type := _, pos := _, after := _, guard := _ }) (v := .agg #[.int .i64 st, .slice A2 n c2, .int .i64 se, .int .i64 re, .int .i64 ag, .bool true]) rfl (by kernel_rfl) (by kernel_rfl) (by kernel_rfl) (fun _ _ _ h => h) (yield_loadB rfl 34 (.tmp 8) rfl (ga) rfl 34 _ (fun w h => h.1) _ Tryd.underlying34 infoSt) (by assumption) ?_
    (try simp only [Act.put, List.setIfInBounds_toArray, List.set_cons_zero, List.set_cons_succ])
    refine wpAnyH_take (i := 1) (oi := { dst := some 31, op := _, type := _, pos := _, after := _, guard := _ }) (v := .agg (dArr q)) rfl (by kernel_rfl) (by kernel_rfl) (by kernel_rfl) (fun _ _ _ h => h) (yield_loadB rfl 50 (.tmp 7) rfl (gq) rfl 50 _ (fun w h => h.2.2.1) _ Tryd.underlying50 infoDp) (by assumption) ?_
    (try simp only [Act.put, List.setIfInBounds_toArray, List.set_cons_zero, List.set_cons_succ])
    refine wpAnyH_take (i := 2) (oi := { dst := some 32, op := _, type := _, pos := _, after := _, guard := _ }) (v := .agg #[.int .i64 now, .int .i64 ppm]) rfl (by kernel_rfl) (by kernel_rfl) (by kernel_rfl) (fun _ _ _ h => h) (yield_loadB rfl 63 (.tmp 5) rfl (b + 1 + 1) rfl 63 _ (fun w h => h.2.2.2.1) _ Tryd.underlying63 infoMo) (by assumption) ?_
    (try simp only [Act.put, List.setIfInBounds_toArray, List.set_cons_zero, List.set_cons_succ])
    refine wpAnyH_take (i := 4) (oi := { dst := some 34, op := _, type := _, pos := _, after := _, guard := _ }) (v := .agg #[.int .i64 st, .slice A3 n c3, .int .i64 se, .int .i64 re, .int .i64 ag, .bool false]) rfl (by kernel_rfl) (by kernel_rfl) (by kernel_rfl) (fun _ _ _ h => h) (yield_loadB rfl 34 (.tmp 9) rfl (gb) rfl 34 _ (fun w h => h.2.1) _ Tryd.underlying34 infoSt) (by assumption) ?_
    (try simp only [Act.put, List.setIfInBounds_toArray, List.set_cons_zero, List.set_cons_succ])
    refine wpAnyH_take (i := 5) (oi := { dst := some 35, op := _, type := _, pos := _, after := _, guard := _ }) (v := .agg (dArr q)) rfl (by kernel_rfl) (by kernel_rfl) (by kernel_rfl) (fun _ _ _ h => h) (yield_loadB rfl 50 (.tmp 7) rfl (gq) rfl 50 _ (fun w h => h.2.2.1) _ Tryd.underlying50 infoDp) (by assumption) ?_
    (try simp only [Act.put, List.setIfInBounds_toArray, List.set_cons_zero, List.set_cons_succ])
    refine wpAnyH_take (i := 6) (oi := { dst := some 36, op := _, type := _, pos := _, after := _, guard := _ }) (v := .agg #[.int .i64 now, .int .i64 ppm]) rfl (by kernel_rfl) (by kernel_rfl) (by kernel_rfl) (fun _ _ _ h => h) (yield_loadB rfl 63 (.tmp 5) rfl (b + 1 + 1) rfl 63 _ (fun w h => h.2.2.2.1) _ Tryd.underlying63 infoMo) (by assumption) ?_
    (try simp only [Act.put, List.setIfInBounds_toArray, List.set_cons_zero, List.set_cons_succ])
    refine wpAnyH_ready (rs := [3]) (by kernel_rfl) (by simp) ?_
    refine AllReadyH.cons (o := { dst := some 33, op := _, type := _, pos := _, after := _, guard := _ }) rfl (fun K hK => ?_) AllReadyH.nil
    go_simp
    refine (law17_rank st A2 n c2 fs se re ag true q now ppm _ (HX.out.ext hE) (by have := Hm.out; omega) Hbs.out (hg.ext (HZ.out.trans hE)) (by have := Hs.out; have := Hm.out; omega) (hgl.ext (HZ.out.trans hE))).mono ?_; rintro e w1 ⟨rfl, hb1⟩; replace hE := hE.trans hb1; clear hb1
    try go_wp2_with fail
    refine hK.out _ _ ?_ (fun hHeld => ?_)
    · (try dsimp only); exact ⟨HA.out.ext hE, HB.out.ext hE, HQ.out.ext hE, HM.out.ext hE, (HM.out.ext hE).cell 0, (HM.out.ext hE).cell 1⟩
    clear hK K
    (try simp only [Act.put, List.setIfInBounds_toArray, List.set_cons_zero, List.set_cons_succ])
    refine wpAnyH_ready (rs := [7]) (by kernel_rfl) (by simp) ?_
    refine AllReadyH.cons (o := { dst := some 37, op := _, type := _, pos := _, after := _, guard := _ }) rfl (fun K hK => ?_) AllReadyH.nil
    go_simp
    refine (law17_rank st A3 n c3 fs se re ag false q now ppm _ (HY.out.ext hE) (by have := Hm.out; omega) Hbs.out (hg.ext (HZ.out.trans hE)) (by have := Hs.out; have := Hm.out; omega) (hgl.ext (HZ.out.trans hE))).mono ?_; rintro e w1 ⟨rfl, hb1⟩; replace hE := hE.trans hb1; clear hb1
    try go_wp2_with fail
    refine hK.out _ _ ?_ (fun hHeld => ?_)
    · (try dsimp only); exact ⟨HA.out.ext hE, HB.out.ext hE, HQ.out.ext hE, HM.out.ext hE, (HM.out.ext hE).cell 0, (HM.out.ext hE).cell 1⟩
    clear hK K
    (try simp only [Act.put, List.setIfInBounds_toArray, List.set_cons_zero, List.set_cons_succ])
    refine wpAnyH_take (i := 8) (oi := { dst := some 10, op := _, type := _, pos := _, after := _, guard := _ }) (v := ?_) rfl (by kernel_rfl) (by kernel_rfl) (by kernel_rfl) (fun _ _ _ h => h) (Or.inl ⟨by rfl, ?_⟩) (by assumption) ?_
    rotate_left
    · (intro w hSw; (try dsimp only at hSw); go_simp; (try with_reducible rfl))
    (try simp only [Act.put, List.setIfInBounds_toArray, List.set_cons_zero, List.set_cons_succ])
    refine wpAnyH_take (i := 9) (oi := { dst := some 11, op := _, type := _, pos := _, after := _, guard := _ }) (v := ?_) rfl (by kernel_rfl) (by kernel_rfl) (by kernel_rfl) (fun _ _ _ h => h) (Or.inl ⟨by rfl, ?_⟩) (by assumption) ?_
    rotate_left
    · (intro w hSw; (try dsimp only at hSw); go_simp; (try with_reducible rfl))
    (try simp only [Act.put, List.setIfInBounds_toArray, List.set_cons_zero, List.set_cons_succ])
    refine wpAnyH_done (by kernel_rfl) ?_ _
    go_wp2_with fail
    replace hE := hE.drew
    refine wp_region_held_drew (S := (fun w' => Blk w' ga 34 #[.int .i64 st, .slice A2 n c2, .int .i64 se, .int .i64 re, .int .i64 ag, .bool true] ∧ Blk w' gb 34 #[.int .i64 st, .slice A3 n c3, .int .i64 se, .int .i64 re, .int .i64 ag, .bool false] ∧ Blk w' gq 50 (dArr q) ∧ Blk w' (b + 1 + 1) 63 #[.int .i64 now, .int .i64 ppm] ∧ w'.cell? ⟨b + 1 + 1, 0, none⟩ = some (.int .i64 now) ∧ w'.cell? ⟨b + 1 + 1, 1, none⟩ = some (.int .i64 ppm))) (by kernel_rfl) ?_ (fun hHeld => ?_)
    · (try dsimp only); exact ⟨HA.out.ext hE, HB.out.ext hE, HQ.out.ext hE, HM.out.ext hE, (HM.out.ext hE).cell 0, (HM.out.ext hE).cell 1⟩
    refine wpAnyH_take (i := 0) (oi := { dst := some 38, op := _, type := _, pos := _, after := _, guard := _ }) (v := .agg #[.int .i64 st, .slice A2 n c2, .int .i64 se, .int .i64 re, .int .i64 ag, .bool true]) rfl (by kernel_rfl) (by kernel_rfl) (by kernel_rfl) (fun _ _ _ h => h) (yield_loadB rfl 34 (.tmp 8) rfl (ga) rfl 34 _ (fun w h => h.1) _ Tryd.underlying34 infoSt) (by assumption) ?_
    (try simp only [Act.put, List.setIfInBounds_toArray, List.set_cons_zero, List.set_cons_succ])
    refine wpAnyH_take (i := 1) (oi := { dst := some 39, op := _, type := _, pos := _, after := _, guard := _ }) (v := ?_) rfl (by kernel_rfl) (by kernel_rfl) (by kernel_rfl) (fun _ _ _ h => h) (Or.inl ⟨by rfl, ?_⟩) (by assumption) ?_
    rotate_left
    · (intro w hSw; (try dsimp only at hSw); go_simp; (try with_reducible rfl))
    (try simp only [Act.put, List.setIfInBounds_toArray, List.set_cons_zero, List.set_cons_succ])
    refine wpAnyH_take (i := 2) (oi := { dst := some 40, op := _, type := _, pos := _, after := _, guard := _ }) (v := ?_) rfl (by kernel_rfl) (by kernel_rfl) (by kernel_rfl) (fun _ _ _ h => h) (Or.inl ⟨by rfl, ?_⟩) (by assumption) ?_
    rotate_left
    · (intro w hSw; (try dsimp only at hSw); go_simp; (try with_reducible rfl))
    (try simp only [Act.put, List.setIfInBounds_toArray, List.set_cons_zero, List.set_cons_succ])
    refine wpAnyH_take (i := 3) (oi := { dst := some 41, op := _, type := _, pos := _, after := _, guard := _ }) (v := ?_) rfl (by kernel_rfl) (by kernel_rfl) (by kernel_rfl) (fun _ _ _ h => h) (Or.inl ⟨by rfl, ?_⟩) (by assumption) ?_
    rotate_left
    · (intro w hSw; (try dsimp only at hSw); go_simp; (try with_reducible rfl))
    (try simp only [Act.put, List.setIfInBounds_toArray, List.set_cons_zero, List.set_cons_succ])
    refine wpAnyH_take (i := 4) (oi := { dst := some 42, op := _, type := _, pos := _, after := _, guard := _ }) (v := ?_) rfl (by kernel_rfl) (by kernel_rfl) (by kernel_rfl) (fun _ _ _ h => h) (Or.inl ⟨by rfl, ?_⟩) (by assumption) ?_
    rotate_left
    · (intro w hSw; (try dsimp only at hSw); go_simp; (try with_reducible rfl))
    (try simp only [Act.put, List.setIfInBounds_toArray, List.set_cons_zero, List.set_cons_succ])
    refine wpAnyH_take (i := 6) (oi := { dst := some 44, op := _, type := _, pos := _, after := _, guard := _ }) (v := .agg #[.int .i64 st, .slice A3 n c3, .int .i64 se, .int .i64 re, .int .i64 ag, .bool false]) rfl (by kernel_rfl) (by kernel_rfl) (by kernel_rfl) (fun _ _ _ h => h) (yield_loadB rfl 34 (.tmp 9) rfl (gb) rfl 34 _ (fun w h => h.2.1) _ Tryd.underlying34 infoSt) (by assumption) ?_
    (try simp only [Act.put, List.setIfInBounds_toArray, List.set_cons_zero, List.set_cons_succ])
    refine wpAnyH_take (i := 7) (oi := { dst := some 45, op := _, type := _, pos := _, after := _, guard := _ }) (v := ?_) rfl (by kernel_rfl) (by kernel_rfl) (by kernel_rfl) (fun _ _ _ h => h) (Or.inl ⟨by rfl, ?_⟩) (by assumption) ?_
    rotate_left
    · (intro w hSw; (try dsimp only at hSw); go_simp; (try with_reducible rfl))
    (try simp only [Act.put, List.setIfInBounds_toArray, List.set_cons_zero, List.set_cons_succ])
    refine wpAnyH_take (i := 8) (oi := { dst := some 46, op := _, type := _, pos := _, after := _, guard := _ }) (v := ?_) rfl (by kernel_rfl) (by kernel_rfl) (by kernel_rfl) (fun _ _ _ h => h) (Or.inl ⟨by rfl, ?_⟩) (by assumption) ?_
    rotate_left
    · (intro w hSw; (try dsimp only at hSw); go_simp; (try with_reducible rfl))
    (try simp only [Act.put, List.setIfInBounds_toArray, List.set_cons_zero, List.set_cons_succ])
    refine wpAnyH_take (i := 9) (oi := { dst := some 47, op := _, type := _, pos := _, after := _, guard := _ }) (v := ?_) rfl (by kernel_rfl) (by kernel_rfl) (by kernel_rfl) (fun _ _ _ h => h) (Or.inl ⟨by rfl, ?_⟩) (by assumption) ?_
    rotate_left
    · (intro w hSw; (try dsimp only at hSw); go_simp; (try with_reducible rfl))
    (try simp only [Act.put, List.setIfInBounds_toArray, List.set_cons_zero, List.set_cons_succ])
    refine wpAnyH_take (i := 10) (oi := { dst := some 48, op := _, type := _, pos := _, after := _, guard := _ }) (v := ?_) rfl (by kernel_rfl) (by kernel_rfl) (by kernel_rfl) (fun _ _ _ h => h) (Or.inl ⟨by rfl, ?_⟩) (by assumption) ?_
    rotate_left
    · (intro w hSw; (try dsimp only at hSw); go_simp; (try with_reducible rfl))
    (try simp only [Act.put, List.setIfInBounds_toArray, List.set_cons_zero, List.set_cons_succ])
    refine wpAnyH_ready (rs := [5]) (by kernel_rfl) (by simp) ?_
    refine AllReadyH.cons (o := { dst := some 43, op := _, type := _, pos := _, after := _, guard := _ }) rfl (fun K hK => ?_) AllReadyH.nil
    go_simp
    refine (policy_OnError st A2 n c2 fs se re ag true now ppm _ (HX.out.ext hE) (by have := Hm.out; omega) Hbs.out (hg.ext (HZ.out.trans hE)) (by have := Hs.out; have := Hm.out; omega) (hgl.ext (HZ.out.trans hE))).mono ?_; rintro e w1 ⟨rfl, hb1⟩; replace hE := hE.trans hb1; clear hb1
    try go_wp2_with fail
    refine hK.out _ _ ?_ (fun hHeld => ?_)
    · (try dsimp only); exact ⟨HA.out.ext hE, HB.out.ext hE, HQ.out.ext hE, HM.out.ext hE, (HM.out.ext hE).cell 0, (HM.out.ext hE).cell 1⟩
    clear hK K
    (try simp only [Act.put, List.setIfInBounds_toArray, List.set_cons_zero, List.set_cons_succ])
    refine wpAnyH_ready (rs := [11]) (by kernel_rfl) (by simp) ?_
    refine AllReadyH.cons (o := { dst := some 49, op := _, type := _, pos := _, after := _, guard := _ }) rfl (fun K hK => ?_) AllReadyH.nil
    go_simp
    refine (policy_OnError st A3 n c3 fs se re ag false now ppm _ (HY.out.ext hE) (by have := Hm.out; omega) Hbs.out (hg.ext (HZ.out.trans hE)) (by have := Hs.out; have := Hm.out; omega) (hgl.ext (HZ.out.trans hE))).mono ?_; rintro e w1 ⟨rfl, hb1⟩; replace hE := hE.trans hb1; clear hb1; rw [oe_same (now := now) (ppm := ppm)]
    try go_wp2_with fail
    refine hK.out _ _ ?_ (fun hHeld => ?_)
    · (try dsimp only); exact ⟨HA.out.ext hE, HB.out.ext hE, HQ.out.ext hE, HM.out.ext hE, (HM.out.ext hE).cell 0, (HM.out.ext hE).cell 1⟩
    clear hK K
    (try simp only [Act.put, List.setIfInBounds_toArray, List.set_cons_zero, List.set_cons_succ])
    refine wpAnyH_take (i := 12) (oi := { dst := some 50, op := _, type := _, pos := _, after := _, guard := _ }) (v := ?_) rfl (by kernel_rfl) (by kernel_rfl) (by kernel_rfl) (fun _ _ _ h => h) (Or.inl ⟨by rfl, ?_⟩) (by assumption) ?_
    rotate_left
    · (intro w hSw; (try dsimp only at hSw); go_simp; (try with_reducible rfl))
    (try simp only [Act.put, List.setIfInBounds_toArray, List.set_cons_zero, List.set_cons_succ])
    refine wpAnyH_take (i := 13) (oi := { dst := some 51, op := _, type := _, pos := _, after := _, guard := _ }) (v := ?_) rfl (by kernel_rfl) (by kernel_rfl) (by kernel_rfl) (fun _ _ _ h => h) (Or.inl ⟨by rfl, ?_⟩) (by assumption) ?_
    rotate_left
    · (intro w hSw; (try dsimp only at hSw); go_simp; (try with_reducible rfl))
    (try simp only [Act.put, List.setIfInBounds_toArray, List.set_cons_zero, List.set_cons_succ])
    refine wpAnyH_take (i := 14) (oi := { dst := some 52, op := _, type := _, pos := _, after := _, guard := _ }) (v := .agg #[.int .i64 st, .slice A2 n c2, .int .i64 se, .int .i64 re, .int .i64 ag, .bool true]) rfl (by kernel_rfl) (by kernel_rfl) (by kernel_rfl) (fun _ _ _ h => h) (yield_loadG (by rfl) 34 (.tmp 8) rfl (ga) rfl 34 _ (fun w h => h.1) _ Tryd.underlying34 infoSt) (by assumption) ?_
    (try simp only [Act.put, List.setIfInBounds_toArray, List.set_cons_zero, List.set_cons_succ])
    refine wpAnyH_take (i := 16) (oi := { dst := some 54, op := _, type := _, pos := _, after := _, guard := _ }) (v := .agg #[.int .i64 st, .slice A3 n c3, .int .i64 se, .int .i64 re, .int .i64 ag, .bool false]) rfl (by kernel_rfl) (by kernel_rfl) (by kernel_rfl) (fun _ _ _ h => h) (yield_loadG (by rfl) 34 (.tmp 9) rfl (gb) rfl 34 _ (fun w h => h.2.1) _ Tryd.underlying34 infoSt) (by assumption) ?_
    (try simp only [Act.put, List.setIfInBounds_toArray, List.set_cons_zero, List.set_cons_succ])
    refine wpAnyH_ready (rs := [15]) (by kernel_rfl) (by simp) ?_
    refine AllReadyH.cons (o := { dst := some 53, op := _, type := _, pos := _, after := _, guard := _ }) rfl (fun K hK => ?_) AllReadyH.nil
    go_simp
    refine (policy_Limit st A2 n c2 fs se re ag true _ (HX.out.ext hE) (by have := Hm.out; omega) Hbs.out (hg.ext (HZ.out.trans hE)) (by have := Hs.out; have := Hm.out; omega) (hgl.ext (HZ.out.trans hE))).mono ?_; rintro e w1 ⟨rfl, hb1⟩; replace hE := hE.trans hb1; clear hb1
    try go_wp2_with fail
    refine hK.out _ _ ?_ (fun hHeld => ?_)
    · (try dsimp only); exact ⟨HA.out.ext hE, HB.out.ext hE, HQ.out.ext hE, HM.out.ext hE, (HM.out.ext hE).cell 0, (HM.out.ext hE).cell 1⟩
    clear hK K
    (try simp only [Act.put, List.setIfInBounds_toArray, List.set_cons_zero, List.set_cons_succ])
    refine wpAnyH_ready (rs := [17]) (by kernel_rfl) (by simp) ?_
    refine AllReadyH.cons (o := { dst := some 55, op := _, type := _, pos := _, after := _, guard := _ }) rfl (fun K hK => ?_) AllReadyH.nil
    go_simp
    refine (policy_Limit st A3 n c3 fs se re ag false _ (HY.out.ext hE) (by have := Hm.out; omega) Hbs.out (hg.ext (HZ.out.trans hE)) (by have := Hs.out; have := Hm.out; omega) (hgl.ext (HZ.out.trans hE))).mono ?_; rintro e w1 ⟨rfl, hb1⟩; replace hE := hE.trans hb1; clear hb1; rw [lm_same]
    try go_wp2_with fail
    refine hK.out _ _ ?_ (fun hHeld => ?_)
    · (try dsimp only); exact ⟨HA.out.ext hE, HB.out.ext hE, HQ.out.ext hE, HM.out.ext hE, (HM.out.ext hE).cell 0, (HM.out.ext hE).cell 1⟩
    clear hK K
    (try simp only [Act.put, List.setIfInBounds_toArray, List.set_cons_zero, List.set_cons_succ])
    refine wpAnyH_take (i := 18) (oi := { dst := some 56, op := _, type := _, pos := _, after := _, guard := _ }) (v := ?_) rfl (by kernel_rfl) (by kernel_rfl) (by kernel_rfl) (fun _ _ _ h => h) (Or.inl ⟨by rfl, ?_⟩) (by assumption) ?_
    rotate_left
    · (intro w hSw; (try dsimp only at hSw); go_simp; (try with_reducible rfl))
    (try simp only [Act.put, List.setIfInBounds_toArray, List.set_cons_zero, List.set_cons_succ])
    refine wpAnyH_take (i := 19) (oi := { dst := some 57, op := _, type := _, pos := _, after := _, guard := _ }) (v := ?_) rfl (by kernel_rfl) (by kernel_rfl) (by kernel_rfl) (fun _ _ _ h => h) (Or.inl ⟨by rfl, ?_⟩) (by assumption) ?_
    rotate_left
    · (intro w hSw; (try dsimp only at hSw); go_simp; (try with_reducible rfl))
    (try simp only [Act.put, List.setIfInBounds_toArray, List.set_cons_zero, List.set_cons_succ])
    refine wpAnyH_done (by kernel_rfl) ?_ _
    have HF := Lib.hid (HZ.out.trans hE)
    clear hE
    have hjv := Hjv.out
    generalize jdS ⟨st, fs, ⟨se, re, ag⟩, true⟩ q now ppm = j1 at *
    generalize jdS ⟨st, fs, ⟨se, re, ag⟩, false⟩ q now ppm = j0 at *
    rcases hjv with ⟨rfl, rfl⟩ | ⟨rfl, g1, g2⟩
    · go_wp2_with fail
      go_ret
      exact ⟨rfl, HF.out⟩
    · have z4 : (j1 == 4) = false := by rw [beq_eq_false_iff_ne]; omega
      have z5 : (j1 == 5) = false := by rw [beq_eq_false_iff_ne]; omega
      have z6 : (j1 == j1) = true := by simp
      have z7 : 1 ≤ j1 := g1
      have z8 : j1 ≤ 3 := g2
      go_wp2_with fail
      go_ret
      exact ⟨rfl, HF.out⟩
  · rintro m listed a w1 ⟨k, ba, bb, ga, gb, va, vb, vx, vy, A2, c2, A3, c3, hn, hc, rfl, rfl, hE1, kx, ky, ka, kb, dab, sxa, sxb, sya, syb⟩
    refine inv_step ((if k = 0 then [1] else if k = 1 then [3] else []) ++ (bif ba then [] else [4]) ++ (bif bb then [] else [5])) ?_ ?_ ?_
    · clear kx ky ka kb dab hE1 sxa sxb sya syb
      obtain rfl | rfl | rfl : k = 0 ∨ k = 1 ∨ k = 2 := by omega
      all_goals (cases ba <;> cases bb)
      all_goals first | (exfalso; simp at hn; done) | kernel_rfl
    · clear kx ky ka kb dab hE1 sxa sxb sya syb
      obtain rfl | rfl | rfl : k = 0 ∨ k = 1 ∨ k = 2 := by omega
      all_goals (cases ba <;> cases bb)
      all_goals first | (exfalso; simp at hn; done) | (intro h; cases h; done)
    · intro i hi
      have hi : (i = 1 ∧ k = 0) ∨ (i = 3 ∧ k = 1) ∨ (i = 4 ∧ ba = false) ∨ (i = 5 ∧ bb = false) := by
        simp only [List.mem_append] at hi
        rcases hi with (hi | hi) | hi
        · split at hi
          · simp at hi; exact .inl ⟨hi, by assumption⟩
          · split at hi
            · simp at hi; exact .inr (.inl ⟨hi, by assumption⟩)
            · simp at hi
        · cases ba <;> simp at hi; exact .inr (.inr (.inl ⟨hi, rfl⟩))
        · cases bb <;> simp at hi; exact .inr (.inr (.inr ⟨hi, rfl⟩))
      rcases hi with ⟨rfl, rfl⟩ | ⟨rfl, rfl⟩ | ⟨rfl, rfl⟩ | ⟨rfl, rfl⟩
      · refine inv_op rfl (fun K hK => ?_)
        go_simp
        refine (HSt.out _ hE1).mono ?_; rintro e w3 ⟨A9, c9, rfl, hr9, hc9, hb3, hf9⟩
        try go_wp2_with fail
        have hE2 := hE1.trans hb3
        refine hK.out _ _ ⟨(HS5.out.ext hE2), 1, ba, bb, ga, gb, va, vb, .agg #[.int .i64 st, .slice A9 n c9, .int .i64 se, .int .i64 re, .int .i64 ag, .bool hv], vy, A9, c9, A3, c3, (by cases ba <;> cases bb <;> simp only [cond_true, cond_false] at hn ⊢ <;> omega), by decide, rfl, rfl, hE2, (fun _ => ⟨rfl, hr9⟩), (fun h => by omega), (fun h => ⟨(ka h).1, (ka h).2.1.ext hb3, (ka h).2.2⟩), (fun h => ⟨(kb h).1, (kb h).2.1.ext hb3, (kb h).2.2⟩), dab, (fun _ h _ a ha => by have := hf9 a ha; have := (ka h).2.1.lt; omega), (fun _ h _ a ha => by have := hf9 a ha; have := (kb h).2.1.lt; omega), (fun h => by omega), (fun h => by omega)⟩
      · refine inv_op rfl (fun K hK => ?_)
        go_simp
        refine (HSt.out _ hE1).mono ?_; rintro e w3 ⟨A9, c9, rfl, hr9, hc9, hb3, hf9⟩
        try go_wp2_with fail
        have hE2 := hE1.trans hb3
        refine hK.out _ _ ⟨(HS5.out.ext hE2), 2, ba, bb, ga, gb, va, vb, .agg #[.int .i64 st, .slice A2 n c2, .int .i64 se, .int .i64 re, .int .i64 ag, .bool hv], .agg #[.int .i64 st, .slice A9 n c9, .int .i64 se, .int .i64 re, .int .i64 ag, .bool hv], A2, c2, A9, c9, (by cases ba <;> cases bb <;> simp only [cond_true, cond_false] at hn ⊢ <;> omega), by decide, rfl, rfl, hE2, (fun _ => ⟨rfl, (kx (by decide)).2.ext hb3⟩), (fun _ => ⟨rfl, hr9⟩), (fun h => ⟨(ka h).1, (ka h).2.1.ext hb3, (ka h).2.2⟩), (fun h => ⟨(kb h).1, (kb h).2.1.ext hb3, (kb h).2.2⟩), dab, (fun _ => sxa (by omega)), (fun _ => sxb (by omega)), (fun _ h _ a ha => by have := hf9 a ha; have := (ka h).2.1.lt; omega), (fun _ h _ a ha => by have := hf9 a ha; have := (kb h).2.1.lt; omega)⟩
      · refine inv_op rfl (fun K hK => ?_)
        go_simp
        try go_wp2_with fail
        have hE2 := hE1.alloc (.cells #[.int .i64 0, .slice none 0 0, .int .i64 0, .int .i64 0, .int .i64 0, .bool false] 34)
        refine hK.out _ _ ⟨(HS5.out.ext hE2), k, true, bb, w1.heap.size, gb, .pointer (some ⟨w1.heap.size, 0, none⟩), vb, vx, vy, A2, c2, A3, c3, (by cases bb <;> simp only [cond_true, cond_false] at hn ⊢ <;> omega), hc, rfl, rfl, hE2, (fun h => ⟨(kx h).1, (kx h).2.alloc _⟩), (fun h => ⟨(ky h).1, (ky h).2.alloc _⟩), (fun _ => ⟨rfl, Blk.new w1 34 #[.int .i64 0, .slice none 0 0, .int .i64 0, .int .i64 0, .int .i64 0, .bool false], hE1.below.size⟩), (fun h => ⟨(kb h).1, (kb h).2.1.alloc _, (kb h).2.2⟩), (fun _ h => by have := (kb h).2.1.lt; omega), (fun h _ h0 a ha => by have := Rd.lowF (kx h).2 h0 a ha; omega), sxb, (fun h _ h0 a ha => by have := Rd.lowF (ky h).2 h0 a ha; omega), syb⟩
      · refine inv_op rfl (fun K hK => ?_)
        go_simp
        try go_wp2_with fail
        have hE2 := hE1.alloc (.cells #[.int .i64 0, .slice none 0 0, .int .i64 0, .int .i64 0, .int .i64 0, .bool false] 34)
        refine hK.out _ _ ⟨(HS5.out.ext hE2), k, ba, true, ga, w1.heap.size, va, .pointer (some ⟨w1.heap.size, 0, none⟩), vx, vy, A2, c2, A3, c3, (by cases ba <;> simp only [cond_true, cond_false] at hn ⊢ <;> omega), hc, rfl, rfl, hE2, (fun h => ⟨(kx h).1, (kx h).2.alloc _⟩), (fun h => ⟨(ky h).1, (ky h).2.alloc _⟩), (fun h => ⟨(ka h).1, (ka h).2.1.alloc _, (ka h).2.2⟩), (fun _ => ⟨rfl, Blk.new w1 34 #[.int .i64 0, .slice none 0 0, .int .i64 0, .int .i64 0, .int .i64 0, .bool false], hE1.below.size⟩), (fun h _ => by have := (ka h).2.1.lt; omega), sxa, (fun h _ h0 a ha => by have := Rd.lowF (kx h).2 h0 a ha; omega), sya, (fun h _ h0 a ha => by have := Rd.lowF (ky h).2 h0 a ha; omega)⟩
end Go.Proofs.YtocniclkooiggaaDoor

namespace Go.Proofs.YtocniclkooiggaaDoor
open Go.RowKit

theorem blk_of_ext {a w : World} (_ : Ext a w) (t : TypeId) (cs : Array Value) : Blk (w.alloc (.cells cs t)) w.heap.size t cs := Blk.new w t cs
set_option maxHeartbeats 1000000 in
theorem base_Clip (n lo hi : Int) (w : World) : Calls Tryd.prog 31 #[.int .i64 n, .int .i64 lo, .int .i64 hi] w fun e w' => e = .returned (.int .i64 (max lo (min n hi))) ∧ w' = w := by
  go_enter Tryd.func31, Tryd.ntmps31
  go_wp2_with fail
  all_goals
    go_ret
    exact ⟨ret_n (by omega), rfl⟩
set_option maxHeartbeats 1000000 in
theorem base_Time (n : Int) (w : World) : Calls Tryd.prog 26 #[.int .i64 n] w fun e w' => e = .returned (.int .i64 (clT n)) ∧ w' = w := by
  have HC := Lib.hid (base_Clip n 0 1099511627776)
  go_enter Tryd.func26, Tryd.ntmps26
  go_wp2_with fail
  refine (HC.out _).mono ?_; rintro e w1 ⟨rfl, rfl⟩
  go_wp2_with fail
  go_ret
  exact ⟨rfl, rfl⟩

set_option maxHeartbeats 16000000 in
set_option maxRecDepth 100000 in
theorem later_walk (st : Int) (A : Option Addr) (n c : Nat) (fs : List Fd) (se re ag : Int) (hv : Bool) (q : D) (ma mb mc md : Int) (w : World) (hf : RdF w A n fs) (hbk : fs.length + sumF fs ≤ 1048576) (hg : GlH w) (hgl : Gl w) :
    Calls Tryd.prog 5 #[.agg #[.int .i64 st, .slice A n c, .int .i64 se, .int .i64 re, .int .i64 ag, .bool hv], .agg (dArr q), .agg #[.int .i64 ma, .int .i64 mb, .int .i64 mc, .int .i64 md]] w fun e w' => e = .returned (.bool true) ∧ Ext w w' := by
  have HBs := Lib.hid (((Blk.new w 60 #[.int .i64 st, .slice A n c, .int .i64 se, .int .i64 re, .int .i64 ag, .bool hv]).alloc (.cells (dArr q) 61)).alloc (.cells #[.int .i64 ma, .int .i64 mb, .int .i64 mc, .int .i64 md] 70))
  have HBq := Lib.hid ((show Blk ((w.alloc (.cells #[.int .i64 st, .slice A n c, .int .i64 se, .int .i64 re, .int .i64 ag, .bool hv] 60)).alloc (.cells (dArr q) 61)) (w.heap.size + 1) 61 (dArr q) by
    have h := Blk.new (w.alloc (.cells #[.int .i64 st, .slice A n c, .int .i64 se, .int .i64 re, .int .i64 ag, .bool hv] 60)) 61 (dArr q)
    rw [World.size_alloc] at h; exact h).alloc (.cells #[.int .i64 ma, .int .i64 mb, .int .i64 mc, .int .i64 md] 70))
  have HBm := Lib.hid (show Blk (((w.alloc (.cells #[.int .i64 st, .slice A n c, .int .i64 se, .int .i64 re, .int .i64 ag, .bool hv] 60)).alloc (.cells (dArr q) 61)).alloc (.cells #[.int .i64 ma, .int .i64 mb, .int .i64 mc, .int .i64 md] 70)) (w.heap.size + 1 + 1) 70 #[.int .i64 ma, .int .i64 mb, .int .i64 mc, .int .i64 md] by
    have h := Blk.new ((w.alloc (.cells #[.int .i64 st, .slice A n c, .int .i64 se, .int .i64 re, .int .i64 ag, .bool hv] 60)).alloc (.cells (dArr q) 61)) 70 #[.int .i64 ma, .int .i64 mb, .int .i64 mc, .int .i64 md]
    rw [World.size_alloc, World.size_alloc] at h; exact h)
  have HE := Lib.hid ((((Ext.refl w).alloc (.cells #[.int .i64 st, .slice A n c, .int .i64 se, .int .i64 re, .int .i64 ag, .bool hv] 60)).alloc (.cells (dArr q) 61)).alloc (.cells #[.int .i64 ma, .int .i64 mb, .int .i64 mc, .int .i64 md] 70))
  have Hlj := Lib.hid (fun (x y : Int) => @jdS_later ⟨st, fs, ⟨se, re, ag⟩, hv⟩ q x y mb)
  have Hlo := Lib.hid (fun (x y : Int) => @oeS_later ⟨st, fs, ⟨se, re, ag⟩, hv⟩ x y mb)
  go_enter Tryd.func5, Tryd.ntmps5
  go_wp2_with fail
  generalize ((w.alloc (.cells #[.int .i64 st, .slice A n c, .int .i64 se, .int .i64 re, .int .i64 ag, .bool hv] 60)).alloc (.cells (dArr q) 61)).alloc (.cells #[.int .i64 ma, .int .i64 mb, .int .i64 mc, .int .i64 md] 70) = W0 at *
  generalize hbq : w.heap.size = b at *
  refine (law17_large A n c fs _ (hf.ext HE.out) hbk).mono ?_; rintro e w1 ⟨rfl, hb1⟩
  cases hlg : lg17 fs
  rotate_left
  · have s1 := (HBs.out.ext hb1).cell 1
    go_wp2_with fail
    refine (law17_large A n c fs _ (hf.ext (HE.out.trans hb1)) hbk).mono ?_; rintro e w2 ⟨rfl, hb2⟩
    rw [hlg]
    go_wp2_with fail
    go_ret
    exact ⟨rfl, HE.out.trans (hb1.trans hb2)⟩
  have Hs := Lib.hid (lg_no17 hlg)
  have Hbs := Lib.hid ((bsz_of_sumF fs).mono (show sumF fs ≤ 1048576 by omega))
  have hn : n ≤ 3000 := by have := hf.lenF; have := Hs.out; omega
  have Hm := Lib.hid hn
  clear hlg hbk hn
  go_wp2_with fail
  refine (law17_awake _ (hg.ext (HE.out.trans hb1)) (hgl.ext (HE.out.trans hb1))).mono ?_; rintro e w2 ⟨rfl, hb2⟩
  have HW2 := Lib.hid (hb1.trans hb2)
  clear hb1 hb2
  go_wp2_with fail
  have hE := HW2.out.drew
  have HSt := Lib.hid (fun w' (h : Ext W0 w') => law17_Stored st A n c fs se re ag hv w' (hf.ext (HE.out.trans h)) (by have := Hm.out; omega))
  refine wp_region_held_drew (S := (fun w' => Blk w' b 60 #[.int .i64 st, .slice A n c, .int .i64 se, .int .i64 re, .int .i64 ag, .bool hv] ∧ Blk w' (b + 1) 61 (dArr q))) (by kernel_rfl) ?_ (fun hHeld => ?_)
  · (try dsimp only); exact ⟨HBs.out.ext hE, HBq.out.ext hE⟩
  refine wpAnyH_take (i := 0) (oi := { dst := some 26, op := _, type := _, pos := _, after := _, guard := _ }) (v := .agg #[.int .i64 st, .slice A n c, .int .i64 se, .int .i64 re, .int .i64 ag, .bool hv]) rfl (by kernel_rfl) (by kernel_rfl) (by kernel_rfl) (fun _ _ _ h => h) (yield_loadB rfl 60 (.tmp 3) rfl (b) rfl 60 _ (fun w h => h.1) _ Tryd.underlying60 infoRs) (by assumption) ?_
  (try simp only [Act.put, List.setIfInBounds_toArray, List.set_cons_zero, List.set_cons_succ])
  refine wpAnyH_take (i := 2) (oi := { dst := some 28, op := _, type := _, pos := _, after := _, guard := _ }) (v := .agg (dArr q)) rfl (by kernel_rfl) (by kernel_rfl) (by kernel_rfl) (fun _ _ _ h => h) (yield_loadB rfl 61 (.tmp 4) rfl (b + 1) rfl 61 _ (fun w h => h.2) _ Tryd.underlying61 infoD) (by assumption) ?_
  (try simp only [Act.put, List.setIfInBounds_toArray, List.set_cons_zero, List.set_cons_succ])
  refine (wpAnyH_inv (I := (fun m listed a w1 => ∃ (k : Nat) (ba bb : Bool) (ga gb : Nat) (va vb vx vy : Value) (A2 : Option Addr) (c2 : Nat), m = (2 - k) + (bif ba then 0 else 1) + (bif bb then 0 else 1) ∧ k ≤ 2 ∧ listed = #[true, decide (1 ≤ k), true, decide (2 ≤ k), ba, bb, false, false] ∧ a = { tmps := #[.agg #[.int .i64 st, .slice A n c, .int .i64 se, .int .i64 re, .int .i64 ag, .bool hv], .agg (dArr q), .agg #[.int .i64 ma, .int .i64 mb, .int .i64 mc, .int .i64 md], .pointer (some ⟨b, 0, none⟩), .pointer (some ⟨b + 1, 0, none⟩), .pointer (some ⟨b + 1 + 1, 0, none⟩), .bool false, va, vb, undef, undef, undef, undef, undef, undef, undef, .pointer (some ⟨b, 1, none⟩), .slice A n c, .bool false, .bool false, .bool true, .bool false, .bool false, undef, undef, undef, .agg #[.int .i64 st, .slice A n c, .int .i64 se, .int .i64 re, .int .i64 ag, .bool hv], vx, .agg (dArr q), vy, undef, undef, undef, undef, undef, undef, undef, undef, undef, undef, undef, undef, undef, undef, undef, undef, undef, undef, undef, undef, undef, undef, undef, undef, undef, undef, undef, undef, undef, undef, undef, undef, undef, undef, undef, undef, undef, undef, undef, undef, undef, undef, undef, undef, undef, undef, undef, undef, undef, undef, undef, undef, undef, undef, undef, undef, undef, undef, undef, undef, undef], defers := [] } ∧ Ext W0 w1 ∧
      (1 ≤ k → vx = .agg #[.int .i64 st, .slice A2 n c2, .int .i64 se, .int .i64 re, .int .i64 ag, .bool hv] ∧ RdF w1 A2 n fs) ∧ (2 ≤ k → vy = .agg (dArr q) ∧ True) ∧
      (ba = true → va = .pointer (some ⟨ga, 0, none⟩) ∧ Blk w1 ga 34 #[.int .i64 0, .slice none 0 0, .int .i64 0, .int .i64 0, .int .i64 0, .bool false] ∧ W0.heap.size ≤ ga) ∧ (bb = true → vb = .pointer (some ⟨gb, 0, none⟩) ∧ Blk w1 gb 50 (dArr zeroD) ∧ W0.heap.size ≤ gb) ∧
      (ba = true → bb = true → ga ≠ gb) ∧ (1 ≤ k → ba = true → 0 < n → ∀ a, A2 = some a → a.block ≠ ga) ∧ (1 ≤ k → bb = true → 0 < n → ∀ a, A2 = some a → a.block ≠ gb))) 2 ?_ ?_ 4 _ _ _ ?_ : _)
  rotate_left 2
  · exact ⟨0, false, false, 0, 0, undef, undef, undef, undef, none, 0, rfl, by decide, rfl, rfl, hE, (fun h => by omega), (fun h => by omega), (fun h => by cases h), (fun h => by cases h), (fun h => by cases h), (fun _ h => by cases h), (fun _ h => by cases h)⟩
  · rintro listed a w1 ⟨k, ba, bb, ga, gb, va, vb, vx, vy, A2, c2, hn, hc, rfl, rfl, hE1, kx, ky, ka, kb, dab, sxa, sxb⟩
    obtain ⟨rfl, rfl, rfl⟩ : k = 2 ∧ ba = true ∧ bb = true := by cases ba <;> cases bb <;> simp at hn ⊢ <;> omega
    obtain ⟨rfl, hx1⟩ := kx (by decide)
    obtain ⟨rfl, hy1⟩ := ky (by decide)
    obtain ⟨rfl, hba, hwa⟩ := ka rfl
    obtain ⟨rfl, hbb, hwb⟩ := kb rfl
    have hab := dab rfl rfl
    have Sxa := Lib.hid (sxa (by decide) rfl); have Sxb := Lib.hid (sxb (by decide) rfl)
    clear kx ky ka kb dab hn hc hE sxa sxb
    refine wpAnyH_ready (rs := [6]) (by kernel_rfl) (by simp) ?_
    refine AllReadyH.cons (o := { dst := none, op := _, type := _, pos := _, after := _, guard := _ }) rfl (fun K hK => ?_) AllReadyH.nil
    refine step_storeB rfl 34 (.tmp 7) (.tmp 27) rfl rfl ga _ rfl rfl 34 _ hba infoSt rfl (by simp [Value.oneCell']) ?_; intro w4 hNga hXga
    replace hE1 := hE1.growB hXga hwa
    replace hbb := hbb.grown hXga (by simp; omega)
    replace hx1 := Rd.growZ hx1 hXga Sxa.out
    refine hK.out _ _ ⟨HBs.out.ext hE1, HBq.out.ext hE1⟩ (fun hHeld => ?_)
    clear hK K
    (try simp only [Act.put, List.setIfInBounds_toArray, List.set_cons_zero, List.set_cons_succ])
    refine wpAnyH_ready (rs := [7]) (by kernel_rfl) (by simp) ?_
    refine AllReadyH.cons (o := { dst := none, op := _, type := _, pos := _, after := _, guard := _ }) rfl (fun K hK => ?_) AllReadyH.nil
    refine step_storeB rfl 50 (.tmp 8) (.tmp 29) rfl rfl gb _ rfl rfl 50 _ hbb infoDp rfl (dArr_one q) ?_; intro w9 hNgb hXgb
    replace hE1 := hE1.growB hXgb hwb
    replace hNga := hNga.grown hXgb (by simp; omega)
    replace hx1 := Rd.growZ hx1 hXgb Sxb.out
    refine hK.out _ _ ⟨HBs.out.ext hE1, HBq.out.ext hE1⟩ (fun hHeld => ?_)
    clear hK K
    (try simp only [Act.put, List.setIfInBounds_toArray, List.set_cons_zero, List.set_cons_succ])
    refine wpAnyH_done (by kernel_rfl) ?_ _
    have HE9 := Lib.hid hE1; have HA9 := Lib.hid hNga; have HB9 := Lib.hid hNgb; have Hw9 := Lib.hid (⟨hab, hwa, hwb⟩ : _ ∧ _ ∧ _)
    have HX9 := Lib.hid hx1
    have Sp2 := Lib.hid (⟨Sxa.out, Sxb.out⟩ : _ ∧ _)
    clear hE1 hNga hNgb hab hwa hwb hx1 hy1 hXga hXgb hbb hba hHeld Sxa Sxb
    have HM9 := Lib.hid (HBm.out.ext HE9.out)
    have HZ9 := Lib.hid (HE.out.trans HE9.out)
    clear HBs HBq HBm HSt HW2
    go_wp2_with fail
    refine wp_region_held_drew (S := (fun w' => w'.cell? ⟨b + 1 + 1, 0, none⟩ = some (.int .i64 ma) ∧ w'.cell? ⟨b + 1 + 1, 2, none⟩ = some (.int .i64 mc))) (by kernel_rfl) ?_ (fun hHeld => ?_)
    · (try dsimp only); exact ⟨HM9.out.cell 0, HM9.out.cell 2⟩
    refine wpAnyH_take (i := 0) (oi := { dst := some 30, op := _, type := _, pos := _, after := _, guard := _ }) (v := ?_) rfl (by kernel_rfl) (by kernel_rfl) (by kernel_rfl) (fun _ _ _ h => h) (Or.inl ⟨by rfl, ?_⟩) (by assumption) ?_
    rotate_left
    · (intro w hSw; (try dsimp only at hSw); go_simp; (try with_reducible rfl))
    (try simp only [Act.put, List.setIfInBounds_toArray, List.set_cons_zero, List.set_cons_succ])
    refine wpAnyH_take (i := 1) (oi := { dst := some 31, op := _, type := _, pos := _, after := _, guard := _ }) (v := ?_) rfl (by kernel_rfl) (by kernel_rfl) (by kernel_rfl) (fun _ _ _ h => h) (Or.inl ⟨by rfl, ?_⟩) (by assumption) ?_
    rotate_left
    · (intro w hSw; (try dsimp only at hSw); go_simp; (try with_reducible rfl))
    (try simp only [Act.put, List.setIfInBounds_toArray, List.set_cons_zero, List.set_cons_succ])
    refine wpAnyH_take (i := 2) (oi := { dst := some 32, op := _, type := _, pos := _, after := _, guard := _ }) (v := ?_) rfl (by kernel_rfl) (by kernel_rfl) (by kernel_rfl) (fun _ _ _ h => h) (Or.inl ⟨by rfl, ?_⟩) (by assumption) ?_
    rotate_left
    · (intro w hSw; (try dsimp only at hSw); go_simp; (try with_reducible rfl))
    (try simp only [Act.put, List.setIfInBounds_toArray, List.set_cons_zero, List.set_cons_succ])
    refine wpAnyH_take (i := 4) (oi := { dst := some 34, op := _, type := _, pos := _, after := _, guard := _ }) (v := ?_) rfl (by kernel_rfl) (by kernel_rfl) (by kernel_rfl) (fun _ _ _ h => h) (Or.inl ⟨by rfl, ?_⟩) (by assumption) ?_
    rotate_left
    · (intro w hSw; (try dsimp only at hSw); go_simp; (try with_reducible rfl))
    (try simp only [Act.put, List.setIfInBounds_toArray, List.set_cons_zero, List.set_cons_succ])
    refine wpAnyH_take (i := 5) (oi := { dst := some 35, op := _, type := _, pos := _, after := _, guard := _ }) (v := ?_) rfl (by kernel_rfl) (by kernel_rfl) (by kernel_rfl) (fun _ _ _ h => h) (Or.inl ⟨by rfl, ?_⟩) (by assumption) ?_
    rotate_left
    · (intro w hSw; (try dsimp only at hSw); go_simp; (try with_reducible rfl))
    (try simp only [Act.put, List.setIfInBounds_toArray, List.set_cons_zero, List.set_cons_succ])
    refine wpAnyH_take (i := 6) (oi := { dst := some 36, op := _, type := _, pos := _, after := _, guard := _ }) (v := ?_) rfl (by kernel_rfl) (by kernel_rfl) (by kernel_rfl) (fun _ _ _ h => h) (Or.inl ⟨by rfl, ?_⟩) (by assumption) ?_
    rotate_left
    · (intro w hSw; (try dsimp only at hSw); go_simp; (try with_reducible rfl))
    (try simp only [Act.put, List.setIfInBounds_toArray, List.set_cons_zero, List.set_cons_succ])
    refine wpAnyH_ready (rs := [3]) (by kernel_rfl) (by simp) ?_
    refine AllReadyH.cons (o := { dst := some 33, op := _, type := _, pos := _, after := _, guard := _ }) rfl (fun K hK => ?_) AllReadyH.nil
    go_simp
    refine (base_Time ma _).mono ?_; rintro e w1 ⟨rfl, rfl⟩
    try go_wp2_with fail
    refine hK.out _ _ ?_ (fun hHeld => ?_)
    · (try dsimp only); exact ⟨HM9.out.cell 0, HM9.out.cell 2⟩
    clear hK K
    (try simp only [Act.put, List.setIfInBounds_toArray, List.set_cons_zero, List.set_cons_succ])
    refine wpAnyH_ready (rs := [7]) (by kernel_rfl) (by simp) ?_
    refine AllReadyH.cons (o := { dst := some 37, op := _, type := _, pos := _, after := _, guard := _ }) rfl (fun K hK => ?_) AllReadyH.nil
    go_simp
    refine (base_Time mc _).mono ?_; rintro e w1 ⟨rfl, rfl⟩
    try go_wp2_with fail
    refine hK.out _ _ ?_ (fun hHeld => ?_)
    · (try dsimp only); exact ⟨HM9.out.cell 0, HM9.out.cell 2⟩
    clear hK K
    (try simp only [Act.put, List.setIfInBounds_toArray, List.set_cons_zero, List.set_cons_succ])
    refine wpAnyH_take (i := 8) (oi := { dst := some 9, op := _, type := _, pos := _, after := _, guard := _ }) (v := ?_) rfl (by kernel_rfl) (by kernel_rfl) (by kernel_rfl) (fun _ _ _ h => h) (Or.inl ⟨by rfl, ?_⟩) (by assumption) ?_
    rotate_left
    · (intro w hSw; (try dsimp only at hSw); go_simp; (try with_reducible rfl))
    (try simp only [Act.put, List.setIfInBounds_toArray, List.set_cons_zero, List.set_cons_succ])
    refine wpAnyH_take (i := 9) (oi := { dst := some 10, op := _, type := _, pos := _, after := _, guard := _ }) (v := ?_) rfl (by kernel_rfl) (by kernel_rfl) (by kernel_rfl) (fun _ _ _ h => h) (Or.inl ⟨by rfl, ?_⟩) (by assumption) ?_
    rotate_left
    · (intro w hSw; (try dsimp only at hSw); go_simp; (try with_reducible rfl))
    (try simp only [Act.put, List.setIfInBounds_toArray, List.set_cons_zero, List.set_cons_succ])
    refine wpAnyH_done (by kernel_rfl) ?_ _
    have m1 : w9.drew.cell? ⟨b + 1 + 1, 1, none⟩ = some (.int .i64 mb) := HM9.out.cell 1
    have a2 : w9.drew.cell? ⟨ga, 2, none⟩ = some (.int .i64 se) := HA9.out.cell 2
    have a3 : w9.drew.cell? ⟨ga, 3, none⟩ = some (.int .i64 re) := HA9.out.cell 3
    have a4 : w9.drew.cell? ⟨ga, 4, none⟩ = some (.int .i64 ag) := HA9.out.cell 4
    obtain ⟨ca0, ca1⟩ := clT_bd ma
    obtain ⟨cb0, cb1⟩ := clT_bd mc
    generalize clT ma = ta at *
    generalize clT mc = tb at *
    go_wp2_with fail
    refine (age_At se re ag (min ta tb) mb _).mono ?_; rintro e w8 ⟨rfl, hb8⟩
    have HL1 := Lib.hid (Hlj.out (min ta tb) (max ta tb) (by omega))
    have HL2 := Lib.hid (Hlo.out (min ta tb) (max ta tb) (by omega))
    clear Hlj Hlo
    generalize atO ⟨se, re, ag⟩ (min ta tb) mb = O at *
    have HE8 := Lib.hid (HE9.out.trans (((Ext.refl w9).drew).trans hb8))
    have HZ8 := Lib.hid (HE.out.trans HE8.out)
    have h98 := ((Ext.refl w9).drew).trans hb8
    have HA8 := Lib.hid (HA9.out.ext h98); have HB8 := Lib.hid (HB9.out.ext h98); have HM8 := Lib.hid (HM9.out.ext h98); have HX8 := Lib.hid (HX9.out.ext h98)
    clear m1 a2 a3 a4 hb8 h98 HA9 HB9 HM9 HX9 HE9 HZ9
    cases O with
    | none =>
      unfold atV
      go_wp2_with fail
      go_ret
      exact ⟨rfl, HZ8.out⟩
    | some pr =>
      obtain ⟨lo, hi⟩ := pr
      have HL1 := Lib.hid (HL1.out rfl)
      have HL2 := Lib.hid (HL2.out rfl)
      unfold atV
      go_wp2_with fail
      have hE := (Ext.refl w8).drew
      have hsz8 := HM8.out.lt
      have hga8 := HA8.out.lt
      have hgb8 := HB8.out.lt
      refine wp_region_held_drew (S := (fun w' => w'.cell? ⟨b + 1 + 1, 1, none⟩ = some (.int .i64 mb))) (by kernel_rfl) ?_ (fun hHeld => ?_)
      · (try dsimp only); exact (HM8.out.ext hE).cell 1
      refine wpAnyH_take (i := 0) (oi := { dst := some 53, op := _, type := _, pos := _, after := _, guard := _ }) (v := ?_) rfl (by kernel_rfl) (by kernel_rfl) (by kernel_rfl) (fun _ _ _ h => h) (Or.inl ⟨by rfl, ?_⟩) (by assumption) ?_
      rotate_left
      · (intro w hSw; (try dsimp only at hSw); go_simp; (try with_reducible rfl))
      (try simp only [Act.put, List.setIfInBounds_toArray, List.set_cons_zero, List.set_cons_succ])
      refine wpAnyH_take (i := 1) (oi := { dst := some 54, op := _, type := _, pos := _, after := _, guard := _ }) (v := ?_) rfl (by kernel_rfl) (by kernel_rfl) (by kernel_rfl) (fun _ _ _ h => h) (Or.inl ⟨by rfl, ?_⟩) (by assumption) ?_
      rotate_left
      · (intro w hSw; (try dsimp only at hSw); go_simp; (try with_reducible rfl))
      (try simp only [Act.put, List.setIfInBounds_toArray, List.set_cons_zero, List.set_cons_succ])
      refine wpAnyH_take (i := 2) (oi := { dst := some 55, op := _, type := _, pos := _, after := _, guard := _ }) (v := ?_) rfl (by kernel_rfl) (by kernel_rfl) (by kernel_rfl) (fun _ _ _ h => h) (Or.inl ⟨by rfl, ?_⟩) (by assumption) ?_
      rotate_left
      · (intro w hSw; (try dsimp only at hSw); go_simp; (try with_reducible rfl))
      (try simp only [Act.put, List.setIfInBounds_toArray, List.set_cons_zero, List.set_cons_succ])
      refine wpAnyH_take (i := 3) (oi := { dst := some 56, op := _, type := _, pos := _, after := _, guard := _ }) (v := ?_) rfl (by kernel_rfl) (by kernel_rfl) (by kernel_rfl) (fun _ _ _ h => h) (Or.inl ⟨by rfl, ?_⟩) (by assumption) ?_
      rotate_left
      · (intro w hSw; (try dsimp only at hSw); go_simp; (try with_reducible rfl))
      (try simp only [Act.put, List.setIfInBounds_toArray, List.set_cons_zero, List.set_cons_succ])
      refine wpAnyH_take (i := 4) (oi := { dst := some 57, op := _, type := _, pos := _, after := _, guard := _ }) (v := ?_) rfl (by kernel_rfl) (by kernel_rfl) (by kernel_rfl) (fun _ _ _ h => h) (Or.inl ⟨by rfl, ?_⟩) (by assumption) ?_
      rotate_left
      · (intro w hSw; (try dsimp only at hSw); go_simp; (try with_reducible rfl))
      (try simp only [Act.put, List.setIfInBounds_toArray, List.set_cons_zero, List.set_cons_succ])
      refine wpAnyH_take (i := 5) (oi := { dst := some 58, op := _, type := _, pos := _, after := _, guard := _ }) (v := ?_) rfl (by kernel_rfl) (by kernel_rfl) (by kernel_rfl) (fun _ _ _ h => h) (Or.inl ⟨by rfl, ?_⟩) (by assumption) ?_
      rotate_left
      · (intro w hSw; (try dsimp only at hSw); go_simp; (try with_reducible rfl))
      (try simp only [Act.put, List.setIfInBounds_toArray, List.set_cons_zero, List.set_cons_succ])
      refine wpAnyH_take (i := 6) (oi := { dst := some 59, op := _, type := _, pos := _, after := _, guard := _ }) (v := ?_) rfl (by kernel_rfl) (by kernel_rfl) (by kernel_rfl) (fun _ _ _ h => h) (Or.inl ⟨by rfl, ?_⟩) (by assumption) ?_
      rotate_left
      · (intro w hSw; (try dsimp only at hSw); go_simp; (try with_reducible rfl))
      (try simp only [Act.put, List.setIfInBounds_toArray, List.set_cons_zero, List.set_cons_succ])
      refine wpAnyH_take (i := 7) (oi := { dst := some 60, op := _, type := _, pos := _, after := _, guard := _ }) (v := ?_) rfl (by kernel_rfl) (by kernel_rfl) (by kernel_rfl) (fun _ _ _ h => h) (Or.inl ⟨by rfl, ?_⟩) (by assumption) ?_
      rotate_left
      · (intro w hSw; (try dsimp only at hSw); go_simp; (try with_reducible rfl))
      (try simp only [Act.put, List.setIfInBounds_toArray, List.set_cons_zero, List.set_cons_succ])
      refine wpAnyH_take (i := 8) (oi := { dst := some 61, op := _, type := _, pos := _, after := _, guard := _ }) (v := ?_) rfl (by kernel_rfl) (by kernel_rfl) (by kernel_rfl) (fun _ _ _ h => h) (Or.inl ⟨by rfl, ?_⟩) (by assumption) ?_
      rotate_left
      · (intro w hSw; (try dsimp only at hSw); go_simp; (try with_reducible rfl))
      (try simp only [Act.put, List.setIfInBounds_toArray, List.set_cons_zero, List.set_cons_succ])
      refine wpAnyH_take (i := 9) (oi := { dst := some 62, op := _, type := _, pos := _, after := _, guard := _ }) (v := ?_) rfl (by kernel_rfl) (by kernel_rfl) (by kernel_rfl) (fun _ _ _ h => h) (Or.inl ⟨by rfl, ?_⟩) (by assumption) ?_
      rotate_left
      · (intro w hSw; (try dsimp only at hSw); go_simp; (try with_reducible rfl))
      (try simp only [Act.put, List.setIfInBounds_toArray, List.set_cons_zero, List.set_cons_succ])
      refine wpAnyH_take (i := 10) (oi := { dst := some 63, op := _, type := _, pos := _, after := _, guard := _ }) (v := ?_) rfl (by kernel_rfl) (by kernel_rfl) (by kernel_rfl) (fun _ _ _ h => h) (Or.inl ⟨by rfl, ?_⟩) (by assumption) ?_
      rotate_left
      · (intro w hSw; (try dsimp only at hSw); go_simp; (try with_reducible rfl))
      (try simp only [Act.put, List.setIfInBounds_toArray, List.set_cons_zero, List.set_cons_succ])
      refine wpAnyH_take (i := 11) (oi := { dst := some 64, op := _, type := _, pos := _, after := _, guard := _ }) (v := ?_) rfl (by kernel_rfl) (by kernel_rfl) (by kernel_rfl) (fun _ _ _ h => h) (Or.inl ⟨by rfl, ?_⟩) (by assumption) ?_
      rotate_left
      · (intro w hSw; (try dsimp only at hSw); go_simp; (try with_reducible rfl))
      (try simp only [Act.put, List.setIfInBounds_toArray, List.set_cons_zero, List.set_cons_succ])
      refine wpAnyH_take (i := 12) (oi := { dst := some 65, op := _, type := _, pos := _, after := _, guard := _ }) (v := ?_) rfl (by kernel_rfl) (by kernel_rfl) (by kernel_rfl) (fun _ _ _ h => h) (Or.inl ⟨by rfl, ?_⟩) (by assumption) ?_
      rotate_left
      · (intro w hSw; (try dsimp only at hSw); go_simp; (try with_reducible rfl))
      (try simp only [Act.put, List.setIfInBounds_toArray, List.set_cons_zero, List.set_cons_succ])
      refine wpAnyH_take (i := 13) (oi := { dst := some 66, op := _, type := _, pos := _, after := _, guard := _ }) (v := ?_) rfl (by kernel_rfl) (by kernel_rfl) (by kernel_rfl) (fun _ _ _ h => h) (Or.inl ⟨by rfl, ?_⟩) (by assumption) ?_
      rotate_left
      · (intro w hSw; (try dsimp only at hSw); go_simp; (try with_reducible rfl))
      (try simp only [Act.put, List.setIfInBounds_toArray, List.set_cons_zero, List.set_cons_succ])
      refine wpAnyH_ready (rs := [14, 15]) (by kernel_rfl) (by simp) ?_
      refine AllReadyH.cons (o := { dst := some 14, op := _, type := _, pos := _, after := _, guard := _ }) rfl (fun K hK => ?_) (AllReadyH.cons (o := { dst := some 15, op := _, type := _, pos := _, after := _, guard := _ }) rfl (fun K hK => ?_) AllReadyH.nil)
      · go_simp
        have hB14 : Blk _ w8.heap.size 63 #[.int .i64 0, .int .i64 0] := blk_of_ext hE 63 #[.int .i64 0, .int .i64 0]; replace hE := hE.alloc (.cells #[.int .i64 0, .int .i64 0] 63)
        try go_wp2_with fail
        refine hK.out _ _ ?_ (fun hHeld => ?_)
        · (try dsimp only); exact (HM8.out.ext hE).cell 1
        clear hK K
        (try simp only [Act.put, List.setIfInBounds_toArray, List.set_cons_zero, List.set_cons_succ])
        refine wpAnyH_ready (rs := [15]) (by kernel_rfl) (by simp) ?_
        refine AllReadyH.cons (o := { dst := some 15, op := _, type := _, pos := _, after := _, guard := _ }) rfl (fun K hK => ?_) AllReadyH.nil
        go_simp
        have hB15 : Blk _ (w8.heap.size + 1) 63 #[.int .i64 0, .int .i64 0] := (by have h := blk_of_ext hE 63 #[.int .i64 0, .int .i64 0]; rw [World.size_alloc] at h; exact h); replace hB14 := hB14.alloc (.cells #[.int .i64 0, .int .i64 0] 63); replace hE := hE.alloc (.cells #[.int .i64 0, .int .i64 0] 63)
        try go_wp2_with fail
        refine hK.out _ _ ?_ (fun hHeld => ?_)
        · (try dsimp only); exact (HM8.out.ext hE).cell 1
        clear hK K
        (try simp only [Act.put, List.setIfInBounds_toArray, List.set_cons_zero, List.set_cons_succ])
        refine wpAnyH_ready (rs := [16]) (by kernel_rfl) (by simp) ?_
        refine AllReadyH.cons (o := { dst := none, op := _, type := _, pos := _, after := _, guard := _ }) rfl (fun K hK => ?_) AllReadyH.nil
        refine step_storeB rfl 63 (.tmp 14) (.tmp 59) rfl rfl w8.heap.size _ rfl rfl 63 _ hB14 infoMo rfl (by simp [Value.oneCell']) ?_; intro wS16 hN14 hX14; replace hB15 := hB15.grown hX14 (by simp); replace hE := hE.growB hX14 (by omega)
        refine hK.out _ _ ?_ (fun hHeld => ?_)
        · (try dsimp only); exact (HM8.out.ext hE).cell 1
        clear hK K
        (try simp only [Act.put, List.setIfInBounds_toArray, List.set_cons_zero, List.set_cons_succ])
        refine wpAnyH_ready (rs := [17]) (by kernel_rfl) (by simp) ?_
        refine AllReadyH.cons (o := { dst := none, op := _, type := _, pos := _, after := _, guard := _ }) rfl (fun K hK => ?_) AllReadyH.nil
        refine step_storeB rfl 63 (.tmp 15) (.tmp 66) rfl rfl (w8.heap.size + 1) _ rfl rfl 63 _ hB15 infoMo rfl (by simp [Value.oneCell']) ?_; intro wS17 hN15 hX15; replace hN14 := hN14.grown hX15 (by simp); replace hE := hE.growB hX15 (by omega)
        refine hK.out _ _ ?_ (fun hHeld => ?_)
        · (try dsimp only); exact (HM8.out.ext hE).cell 1
        clear hK K
        (try simp only [Act.put, List.setIfInBounds_toArray, List.set_cons_zero, List.set_cons_succ])
        refine wpAnyH_done (by kernel_rfl) ?_ _
        have HS14 := Lib.hid hN14; have HS15 := Lib.hid hN15
        have HA := Lib.hid (HA8.out.ext hE); have HB := Lib.hid (HB8.out.ext hE); have HX := Lib.hid (HX8.out.ext hE)
        have HZ := Lib.hid (HZ8.out.trans hE)
        clear hN14 hN15 hX14 hX15 hE hB14 hB15 HA8 HB8 HX8 HE8 HZ8 HM8 hHeld
        generalize w8.heap.size + 1 = gy at *
        generalize w8.heap.size = gx at *
        go_wp2_with fail
        have hE := (Ext.refl wS17).drew
        refine wp_region_held_drew (S := (fun w' => Blk w' ga 34 #[.int .i64 st, .slice A2 n c2, .int .i64 se, .int .i64 re, .int .i64 ag, .bool hv] ∧ Blk w' gb 50 (dArr q) ∧ Blk w' gx 63 #[.int .i64 (min ta tb), .int .i64 mb] ∧ Blk w' gy 63 #[.int .i64 (max ta tb), .int .i64 mb])) (by kernel_rfl) ?_ (fun hHeld => ?_)
        · (try dsimp only); exact ⟨HA.out.ext hE, HB.out.ext hE, HS14.out.ext hE, HS15.out.ext hE⟩
        refine wpAnyH_take (i := 0) (oi := { dst := some 67, op := _, type := _, pos := _, after := _, guard := _ }) (v := .agg #[.int .i64 st, .slice A2 n c2, .int .i64 se, .int .i64 re, .int .i64 ag, .bool hv]) rfl (by kernel_rfl) (by kernel_rfl) (by kernel_rfl) (fun _ _ _ h => h) (yield_loadB rfl 34 (.tmp 7) rfl (ga) rfl 34 _ (fun w h => h.1) _ Tryd.underlying34 infoSt) (by assumption) ?_
        (try simp only [Act.put, List.setIfInBounds_toArray, List.set_cons_zero, List.set_cons_succ])
        refine wpAnyH_take (i := 1) (oi := { dst := some 68, op := _, type := _, pos := _, after := _, guard := _ }) (v := .agg (dArr q)) rfl (by kernel_rfl) (by kernel_rfl) (by kernel_rfl) (fun _ _ _ h => h) (yield_loadB rfl 50 (.tmp 8) rfl (gb) rfl 50 _ (fun w h => h.2.1) _ Tryd.underlying50 infoDp) (by assumption) ?_
        (try simp only [Act.put, List.setIfInBounds_toArray, List.set_cons_zero, List.set_cons_succ])
        refine wpAnyH_take (i := 2) (oi := { dst := some 69, op := _, type := _, pos := _, after := _, guard := _ }) (v := .agg #[.int .i64 (min ta tb), .int .i64 mb]) rfl (by kernel_rfl) (by kernel_rfl) (by kernel_rfl) (fun _ _ _ h => h) (yield_loadB rfl 63 (.tmp 14) rfl (gx) rfl 63 _ (fun w h => h.2.2.1) _ Tryd.underlying63 infoMo) (by assumption) ?_
        (try simp only [Act.put, List.setIfInBounds_toArray, List.set_cons_zero, List.set_cons_succ])
        refine wpAnyH_take (i := 4) (oi := { dst := some 71, op := _, type := _, pos := _, after := _, guard := _ }) (v := .agg #[.int .i64 st, .slice A2 n c2, .int .i64 se, .int .i64 re, .int .i64 ag, .bool hv]) rfl (by kernel_rfl) (by kernel_rfl) (by kernel_rfl) (fun _ _ _ h => h) (yield_loadB rfl 34 (.tmp 7) rfl (ga) rfl 34 _ (fun w h => h.1) _ Tryd.underlying34 infoSt) (by assumption) ?_
        (try simp only [Act.put, List.setIfInBounds_toArray, List.set_cons_zero, List.set_cons_succ])
        refine wpAnyH_take (i := 5) (oi := { dst := some 72, op := _, type := _, pos := _, after := _, guard := _ }) (v := .agg (dArr q)) rfl (by kernel_rfl) (by kernel_rfl) (by kernel_rfl) (fun _ _ _ h => h) (yield_loadB rfl 50 (.tmp 8) rfl (gb) rfl 50 _ (fun w h => h.2.1) _ Tryd.underlying50 infoDp) (by assumption) ?_
        (try simp only [Act.put, List.setIfInBounds_toArray, List.set_cons_zero, List.set_cons_succ])
        refine wpAnyH_take (i := 6) (oi := { dst := some 73, op := _, type := _, pos := _, after := _, guard := _ }) (v := .agg #[.int .i64 (max ta tb), .int .i64 mb]) rfl (by kernel_rfl) (by kernel_rfl) (by kernel_rfl) (fun _ _ _ h => h) (yield_loadB rfl 63 (.tmp 15) rfl (gy) rfl 63 _ (fun w h => h.2.2.2) _ Tryd.underlying63 infoMo) (by assumption) ?_
        (try simp only [Act.put, List.setIfInBounds_toArray, List.set_cons_zero, List.set_cons_succ])
        refine wpAnyH_ready (rs := [3]) (by kernel_rfl) (by simp) ?_
        refine AllReadyH.cons (o := { dst := some 70, op := _, type := _, pos := _, after := _, guard := _ }) rfl (fun K hK => ?_) AllReadyH.nil
        go_simp
        refine (law17_rank st A2 n c2 fs se re ag hv q (min ta tb) mb _ (HX.out.ext hE) (by have := Hm.out; omega) Hbs.out (hg.ext (HZ.out.trans hE)) (by have := Hs.out; have := Hm.out; omega) (hgl.ext (HZ.out.trans hE))).mono ?_; rintro e w1 ⟨rfl, hb1⟩; replace hE := hE.trans hb1; clear hb1
        try go_wp2_with fail
        refine hK.out _ _ ?_ (fun hHeld => ?_)
        · (try dsimp only); exact ⟨HA.out.ext hE, HB.out.ext hE, HS14.out.ext hE, HS15.out.ext hE⟩
        clear hK K
        (try simp only [Act.put, List.setIfInBounds_toArray, List.set_cons_zero, List.set_cons_succ])
        refine wpAnyH_ready (rs := [7]) (by kernel_rfl) (by simp) ?_
        refine AllReadyH.cons (o := { dst := some 74, op := _, type := _, pos := _, after := _, guard := _ }) rfl (fun K hK => ?_) AllReadyH.nil
        go_simp
        refine (law17_rank st A2 n c2 fs se re ag hv q (max ta tb) mb _ (HX.out.ext hE) (by have := Hm.out; omega) Hbs.out (hg.ext (HZ.out.trans hE)) (by have := Hs.out; have := Hm.out; omega) (hgl.ext (HZ.out.trans hE))).mono ?_; rintro e w1 ⟨rfl, hb1⟩; replace hE := hE.trans hb1; clear hb1
        try go_wp2_with fail
        refine hK.out _ _ ?_ (fun hHeld => ?_)
        · (try dsimp only); exact ⟨HA.out.ext hE, HB.out.ext hE, HS14.out.ext hE, HS15.out.ext hE⟩
        clear hK K
        (try simp only [Act.put, List.setIfInBounds_toArray, List.set_cons_zero, List.set_cons_succ])
        refine wpAnyH_take (i := 8) (oi := { dst := some 75, op := _, type := _, pos := _, after := _, guard := _ }) (v := ?_) rfl (by kernel_rfl) (by kernel_rfl) (by kernel_rfl) (fun _ _ _ h => h) (Or.inl ⟨by rfl, ?_⟩) (by assumption) ?_
        rotate_left
        · (intro w hSw; (try dsimp only at hSw); go_simp; (try with_reducible rfl))
        (try simp only [Act.put, List.setIfInBounds_toArray, List.set_cons_zero, List.set_cons_succ])
        refine wpAnyH_done (by kernel_rfl) ?_ _
        have hj1 := HL1.out
        have HO1 := HL2.out
        generalize jdS ⟨st, fs, ⟨se, re, ag⟩, hv⟩ q (min ta tb) mb = j1 at *
        generalize jdS ⟨st, fs, ⟨se, re, ag⟩, hv⟩ q (max ta tb) mb = j2 at *
        have HE1 := Lib.hid hE
        clear hE
        have HA1 := Lib.hid (HA.out.ext HE1.out); have H14 := Lib.hid (HS14.out.ext HE1.out); have H15 := Lib.hid (HS15.out.ext HE1.out)
        have x0 := H14.out.cell 0
        have x1 := H14.out.cell 1
        have hj2 : ¬ j2 < j1 := by omega
        go_wp2_with (first
            | (refine wpList_loadB rfl 34 (.tmp 7) rfl ga rfl 34 _ HA1.out _ Tryd.underlying34 infoSt ?_))
        refine (policy_OnError st A2 n c2 fs se re ag hv (min ta tb) mb _ (HX.out.ext HE1.out) (by have := Hm.out; omega) Hbs.out (hg.ext (HZ.out.trans HE1.out)) (by have := Hs.out; have := Hm.out; omega) (hgl.ext (HZ.out.trans HE1.out))).mono ?_; rintro e w2 ⟨rfl, hb2⟩
        generalize oeS ⟨st, fs, ⟨se, re, ag⟩, hv⟩ (min ta tb) mb = o1 at *
        have HQ2 := Lib.hid (show o1 = false → oeS ⟨st, fs, ⟨se, re, ag⟩, hv⟩ (max ta tb) mb = false from fun h => by cases hz : oeS ⟨st, fs, ⟨se, re, ag⟩, hv⟩ (max ta tb) mb with | false => rfl | true => exact absurd (HO1 hz) (by rw [h]; decide))
        clear HO1
        cases o1
        rotate_left
        · go_wp2_with fail
          go_ret
          exact ⟨rfl, HZ.out.trans (HE1.out.trans hb2)⟩
        · have HE2 := Lib.hid (HE1.out.trans hb2)
          have HA2 := Lib.hid (HA.out.ext HE2.out); have H15b := Lib.hid (HS15.out.ext HE2.out)
          have y0 := H15b.out.cell 0
          have y1 := H15b.out.cell 1
          go_wp2_with (first
            | (refine wpList_loadBG (by rfl) 34 (.tmp 7) rfl ga rfl 34 _ HA2.out _ Tryd.underlying34 infoSt ?_))
          refine (policy_OnError st A2 n c2 fs se re ag hv (max ta tb) mb _ (HX.out.ext HE2.out) (by have := Hm.out; omega) Hbs.out (hg.ext (HZ.out.trans HE2.out)) (by have := Hs.out; have := Hm.out; omega) (hgl.ext (HZ.out.trans HE2.out))).mono ?_; rintro e w3 ⟨rfl, hb3⟩
          have ho2 : oeS ⟨st, fs, ⟨se, re, ag⟩, hv⟩ (max ta tb) mb = false := HQ2.out (by first | rfl | trivial)
          rw [ho2]
          go_wp2_with fail
          go_ret
          exact ⟨rfl, HZ.out.trans (HE2.out.trans hb3)⟩
      · go_simp
        have hB15 : Blk _ w8.heap.size 63 #[.int .i64 0, .int .i64 0] := blk_of_ext hE 63 #[.int .i64 0, .int .i64 0]; replace hE := hE.alloc (.cells #[.int .i64 0, .int .i64 0] 63)
        try go_wp2_with fail
        refine hK.out _ _ ?_ (fun hHeld => ?_)
        · (try dsimp only); exact (HM8.out.ext hE).cell 1
        clear hK K
        (try simp only [Act.put, List.setIfInBounds_toArray, List.set_cons_zero, List.set_cons_succ])
        refine wpAnyH_ready (rs := [14]) (by kernel_rfl) (by simp) ?_
        refine AllReadyH.cons (o := { dst := some 14, op := _, type := _, pos := _, after := _, guard := _ }) rfl (fun K hK => ?_) AllReadyH.nil
        go_simp
        have hB14 : Blk _ (w8.heap.size + 1) 63 #[.int .i64 0, .int .i64 0] := (by have h := blk_of_ext hE 63 #[.int .i64 0, .int .i64 0]; rw [World.size_alloc] at h; exact h); replace hB15 := hB15.alloc (.cells #[.int .i64 0, .int .i64 0] 63); replace hE := hE.alloc (.cells #[.int .i64 0, .int .i64 0] 63)
        try go_wp2_with fail
        refine hK.out _ _ ?_ (fun hHeld => ?_)
        · (try dsimp only); exact (HM8.out.ext hE).cell 1
        clear hK K
        (try simp only [Act.put, List.setIfInBounds_toArray, List.set_cons_zero, List.set_cons_succ])
        refine wpAnyH_ready (rs := [16]) (by kernel_rfl) (by simp) ?_
        refine AllReadyH.cons (o := { dst := none, op := _, type := _, pos := _, after := _, guard := _ }) rfl (fun K hK => ?_) AllReadyH.nil
        refine step_storeB rfl 63 (.tmp 14) (.tmp 59) rfl rfl (w8.heap.size + 1) _ rfl rfl 63 _ hB14 infoMo rfl (by simp [Value.oneCell']) ?_; intro wS16 hN14 hX14; replace hB15 := hB15.grown hX14 (by simp); replace hE := hE.growB hX14 (by omega)
        refine hK.out _ _ ?_ (fun hHeld => ?_)
        · (try dsimp only); exact (HM8.out.ext hE).cell 1
        clear hK K
        (try simp only [Act.put, List.setIfInBounds_toArray, List.set_cons_zero, List.set_cons_succ])
        refine wpAnyH_ready (rs := [17]) (by kernel_rfl) (by simp) ?_
        refine AllReadyH.cons (o := { dst := none, op := _, type := _, pos := _, after := _, guard := _ }) rfl (fun K hK => ?_) AllReadyH.nil
        refine step_storeB rfl 63 (.tmp 15) (.tmp 66) rfl rfl w8.heap.size _ rfl rfl 63 _ hB15 infoMo rfl (by simp [Value.oneCell']) ?_; intro wS17 hN15 hX15; replace hN14 := hN14.grown hX15 (by simp); replace hE := hE.growB hX15 (by omega)
        refine hK.out _ _ ?_ (fun hHeld => ?_)
        · (try dsimp only); exact (HM8.out.ext hE).cell 1
        clear hK K
        (try simp only [Act.put, List.setIfInBounds_toArray, List.set_cons_zero, List.set_cons_succ])
        refine wpAnyH_done (by kernel_rfl) ?_ _
        have HS14 := Lib.hid hN14; have HS15 := Lib.hid hN15
        have HA := Lib.hid (HA8.out.ext hE); have HB := Lib.hid (HB8.out.ext hE); have HX := Lib.hid (HX8.out.ext hE)
        have HZ := Lib.hid (HZ8.out.trans hE)
        clear hN14 hN15 hX14 hX15 hE hB14 hB15 HA8 HB8 HX8 HE8 HZ8 HM8 hHeld
        generalize w8.heap.size + 1 = gx at *
        generalize w8.heap.size = gy at *
        go_wp2_with fail
        have hE := (Ext.refl wS17).drew
        refine wp_region_held_drew (S := (fun w' => Blk w' ga 34 #[.int .i64 st, .slice A2 n c2, .int .i64 se, .int .i64 re, .int .i64 ag, .bool hv] ∧ Blk w' gb 50 (dArr q) ∧ Blk w' gx 63 #[.int .i64 (min ta tb), .int .i64 mb] ∧ Blk w' gy 63 #[.int .i64 (max ta tb), .int .i64 mb])) (by kernel_rfl) ?_ (fun hHeld => ?_)
        · (try dsimp only); exact ⟨HA.out.ext hE, HB.out.ext hE, HS14.out.ext hE, HS15.out.ext hE⟩
        refine wpAnyH_take (i := 0) (oi := { dst := some 67, op := _, type := _, pos := _, after := _, guard := _ }) (v := .agg #[.int .i64 st, .slice A2 n c2, .int .i64 se, .int .i64 re, .int .i64 ag, .bool hv]) rfl (by kernel_rfl) (by kernel_rfl) (by kernel_rfl) (fun _ _ _ h => h) (yield_loadB rfl 34 (.tmp 7) rfl (ga) rfl 34 _ (fun w h => h.1) _ Tryd.underlying34 infoSt) (by assumption) ?_
        (try simp only [Act.put, List.setIfInBounds_toArray, List.set_cons_zero, List.set_cons_succ])
        refine wpAnyH_take (i := 1) (oi := { dst := some 68, op := _, type := _, pos := _, after := _, guard := _ }) (v := .agg (dArr q)) rfl (by kernel_rfl) (by kernel_rfl) (by kernel_rfl) (fun _ _ _ h => h) (yield_loadB rfl 50 (.tmp 8) rfl (gb) rfl 50 _ (fun w h => h.2.1) _ Tryd.underlying50 infoDp) (by assumption) ?_
        (try simp only [Act.put, List.setIfInBounds_toArray, List.set_cons_zero, List.set_cons_succ])
        refine wpAnyH_take (i := 2) (oi := { dst := some 69, op := _, type := _, pos := _, after := _, guard := _ }) (v := .agg #[.int .i64 (min ta tb), .int .i64 mb]) rfl (by kernel_rfl) (by kernel_rfl) (by kernel_rfl) (fun _ _ _ h => h) (yield_loadB rfl 63 (.tmp 14) rfl (gx) rfl 63 _ (fun w h => h.2.2.1) _ Tryd.underlying63 infoMo) (by assumption) ?_
        (try simp only [Act.put, List.setIfInBounds_toArray, List.set_cons_zero, List.set_cons_succ])
        refine wpAnyH_take (i := 4) (oi := { dst := some 71, op := _, type := _, pos := _, after := _, guard := _ }) (v := .agg #[.int .i64 st, .slice A2 n c2, .int .i64 se, .int .i64 re, .int .i64 ag, .bool hv]) rfl (by kernel_rfl) (by kernel_rfl) (by kernel_rfl) (fun _ _ _ h => h) (yield_loadB rfl 34 (.tmp 7) rfl (ga) rfl 34 _ (fun w h => h.1) _ Tryd.underlying34 infoSt) (by assumption) ?_
        (try simp only [Act.put, List.setIfInBounds_toArray, List.set_cons_zero, List.set_cons_succ])
        refine wpAnyH_take (i := 5) (oi := { dst := some 72, op := _, type := _, pos := _, after := _, guard := _ }) (v := .agg (dArr q)) rfl (by kernel_rfl) (by kernel_rfl) (by kernel_rfl) (fun _ _ _ h => h) (yield_loadB rfl 50 (.tmp 8) rfl (gb) rfl 50 _ (fun w h => h.2.1) _ Tryd.underlying50 infoDp) (by assumption) ?_
        (try simp only [Act.put, List.setIfInBounds_toArray, List.set_cons_zero, List.set_cons_succ])
        refine wpAnyH_take (i := 6) (oi := { dst := some 73, op := _, type := _, pos := _, after := _, guard := _ }) (v := .agg #[.int .i64 (max ta tb), .int .i64 mb]) rfl (by kernel_rfl) (by kernel_rfl) (by kernel_rfl) (fun _ _ _ h => h) (yield_loadB rfl 63 (.tmp 15) rfl (gy) rfl 63 _ (fun w h => h.2.2.2) _ Tryd.underlying63 infoMo) (by assumption) ?_
        (try simp only [Act.put, List.setIfInBounds_toArray, List.set_cons_zero, List.set_cons_succ])
        refine wpAnyH_ready (rs := [3]) (by kernel_rfl) (by simp) ?_
        refine AllReadyH.cons (o := { dst := some 70, op := _, type := _, pos := _, after := _, guard := _ }) rfl (fun K hK => ?_) AllReadyH.nil
        go_simp
        refine (law17_rank st A2 n c2 fs se re ag hv q (min ta tb) mb _ (HX.out.ext hE) (by have := Hm.out; omega) Hbs.out (hg.ext (HZ.out.trans hE)) (by have := Hs.out; have := Hm.out; omega) (hgl.ext (HZ.out.trans hE))).mono ?_; rintro e w1 ⟨rfl, hb1⟩; replace hE := hE.trans hb1; clear hb1
        try go_wp2_with fail
        refine hK.out _ _ ?_ (fun hHeld => ?_)
        · (try dsimp only); exact ⟨HA.out.ext hE, HB.out.ext hE, HS14.out.ext hE, HS15.out.ext hE⟩
        clear hK K
        (try simp only [Act.put, List.setIfInBounds_toArray, List.set_cons_zero, List.set_cons_succ])
        refine wpAnyH_ready (rs := [7]) (by kernel_rfl) (by simp) ?_
        refine AllReadyH.cons (o := { dst := some 74, op := _, type := _, pos := _, after := _, guard := _ }) rfl (fun K hK => ?_) AllReadyH.nil
        go_simp
        refine (law17_rank st A2 n c2 fs se re ag hv q (max ta tb) mb _ (HX.out.ext hE) (by have := Hm.out; omega) Hbs.out (hg.ext (HZ.out.trans hE)) (by have := Hs.out; have := Hm.out; omega) (hgl.ext (HZ.out.trans hE))).mono ?_; rintro e w1 ⟨rfl, hb1⟩; replace hE := hE.trans hb1; clear hb1
        try go_wp2_with fail
        refine hK.out _ _ ?_ (fun hHeld => ?_)
        · (try dsimp only); exact ⟨HA.out.ext hE, HB.out.ext hE, HS14.out.ext hE, HS15.out.ext hE⟩
        clear hK K
        (try simp only [Act.put, List.setIfInBounds_toArray, List.set_cons_zero, List.set_cons_succ])
        refine wpAnyH_take (i := 8) (oi := { dst := some 75, op := _, type := _, pos := _, after := _, guard := _ }) (v := ?_) rfl (by kernel_rfl) (by kernel_rfl) (by kernel_rfl) (fun _ _ _ h => h) (Or.inl ⟨by rfl, ?_⟩) (by assumption) ?_
        rotate_left
        · (intro w hSw; (try dsimp only at hSw); go_simp; (try with_reducible rfl))
        (try simp only [Act.put, List.setIfInBounds_toArray, List.set_cons_zero, List.set_cons_succ])
        refine wpAnyH_done (by kernel_rfl) ?_ _
        have hj1 := HL1.out
        have HO1 := HL2.out
        generalize jdS ⟨st, fs, ⟨se, re, ag⟩, hv⟩ q (min ta tb) mb = j1 at *
        generalize jdS ⟨st, fs, ⟨se, re, ag⟩, hv⟩ q (max ta tb) mb = j2 at *
        have HE1 := Lib.hid hE
        clear hE
        have HA1 := Lib.hid (HA.out.ext HE1.out); have H14 := Lib.hid (HS14.out.ext HE1.out); have H15 := Lib.hid (HS15.out.ext HE1.out)
        have x0 := H14.out.cell 0
        have x1 := H14.out.cell 1
        have hj2 : ¬ j2 < j1 := by omega
        go_wp2_with (first
            | (refine wpList_loadB rfl 34 (.tmp 7) rfl ga rfl 34 _ HA1.out _ Tryd.underlying34 infoSt ?_))
        refine (policy_OnError st A2 n c2 fs se re ag hv (min ta tb) mb _ (HX.out.ext HE1.out) (by have := Hm.out; omega) Hbs.out (hg.ext (HZ.out.trans HE1.out)) (by have := Hs.out; have := Hm.out; omega) (hgl.ext (HZ.out.trans HE1.out))).mono ?_; rintro e w2 ⟨rfl, hb2⟩
        generalize oeS ⟨st, fs, ⟨se, re, ag⟩, hv⟩ (min ta tb) mb = o1 at *
        have HQ2 := Lib.hid (show o1 = false → oeS ⟨st, fs, ⟨se, re, ag⟩, hv⟩ (max ta tb) mb = false from fun h => by cases hz : oeS ⟨st, fs, ⟨se, re, ag⟩, hv⟩ (max ta tb) mb with | false => rfl | true => exact absurd (HO1 hz) (by rw [h]; decide))
        clear HO1
        cases o1
        rotate_left
        · go_wp2_with fail
          go_ret
          exact ⟨rfl, HZ.out.trans (HE1.out.trans hb2)⟩
        · have HE2 := Lib.hid (HE1.out.trans hb2)
          have HA2 := Lib.hid (HA.out.ext HE2.out); have H15b := Lib.hid (HS15.out.ext HE2.out)
          have y0 := H15b.out.cell 0
          have y1 := H15b.out.cell 1
          go_wp2_with (first
            | (refine wpList_loadBG (by rfl) 34 (.tmp 7) rfl ga rfl 34 _ HA2.out _ Tryd.underlying34 infoSt ?_))
          refine (policy_OnError st A2 n c2 fs se re ag hv (max ta tb) mb _ (HX.out.ext HE2.out) (by have := Hm.out; omega) Hbs.out (hg.ext (HZ.out.trans HE2.out)) (by have := Hs.out; have := Hm.out; omega) (hgl.ext (HZ.out.trans HE2.out))).mono ?_; rintro e w3 ⟨rfl, hb3⟩
          have ho2 : oeS ⟨st, fs, ⟨se, re, ag⟩, hv⟩ (max ta tb) mb = false := HQ2.out (by first | rfl | trivial)
          rw [ho2]
          go_wp2_with fail
          go_ret
          exact ⟨rfl, HZ.out.trans (HE2.out.trans hb3)⟩
  · rintro m listed a w1 ⟨k, ba, bb, ga, gb, va, vb, vx, vy, A2, c2, hn, hc, rfl, rfl, hE1, kx, ky, ka, kb, dab, sxa, sxb⟩
    refine inv_step ((if k = 0 then [1] else if k = 1 then [3] else []) ++ (bif ba then [] else [4]) ++ (bif bb then [] else [5])) ?_ ?_ ?_
    · clear kx ky ka kb dab hE1 sxa sxb
      obtain rfl | rfl | rfl : k = 0 ∨ k = 1 ∨ k = 2 := by omega
      all_goals (cases ba <;> cases bb)
      all_goals first | (exfalso; simp at hn; done) | kernel_rfl
    · clear kx ky ka kb dab hE1 sxa sxb
      obtain rfl | rfl | rfl : k = 0 ∨ k = 1 ∨ k = 2 := by omega
      all_goals (cases ba <;> cases bb)
      all_goals first | (exfalso; simp at hn; done) | (intro h; cases h; done)
    · intro i hi
      have hi : (i = 1 ∧ k = 0) ∨ (i = 3 ∧ k = 1) ∨ (i = 4 ∧ ba = false) ∨ (i = 5 ∧ bb = false) := by
        simp only [List.mem_append] at hi
        rcases hi with (hi | hi) | hi
        · split at hi
          · simp at hi; exact .inl ⟨hi, by assumption⟩
          · split at hi
            · simp at hi; exact .inr (.inl ⟨hi, by assumption⟩)
            · simp at hi
        · cases ba <;> simp at hi; exact .inr (.inr (.inl ⟨hi, rfl⟩))
        · cases bb <;> simp at hi; exact .inr (.inr (.inr ⟨hi, rfl⟩))
      rcases hi with ⟨rfl, rfl⟩ | ⟨rfl, rfl⟩ | ⟨rfl, rfl⟩ | ⟨rfl, rfl⟩
      · refine inv_op rfl (fun K hK => ?_)
        go_simp
        refine (HSt.out _ hE1).mono ?_; rintro e w3 ⟨A9, c9, rfl, hr9, hc9, hb3, hf9⟩
        try go_wp2_with fail
        have hE2 := hE1.trans hb3
        refine hK.out _ _ ⟨⟨HBs.out.ext hE2, HBq.out.ext hE2⟩, 1, ba, bb, ga, gb, va, vb, .agg #[.int .i64 st, .slice A9 n c9, .int .i64 se, .int .i64 re, .int .i64 ag, .bool hv], vy, A9, c9, (by cases ba <;> cases bb <;> simp only [cond_true, cond_false] at hn ⊢ <;> omega), by decide, rfl, rfl, hE2, (fun _ => ⟨rfl, hr9⟩), (fun h => by omega), (fun h => ⟨(ka h).1, (ka h).2.1.ext hb3, (ka h).2.2⟩), (fun h => ⟨(kb h).1, (kb h).2.1.ext hb3, (kb h).2.2⟩), dab, (fun _ h _ a ha => by have := hf9 a ha; have := (ka h).2.1.lt; omega), (fun _ h _ a ha => by have := hf9 a ha; have := (kb h).2.1.lt; omega)⟩
      · refine inv_op rfl (fun K hK => ?_)
        go_simp
        refine (law_Program q _).mono ?_; rintro e w3 ⟨rfl, hb3⟩
        try go_wp2_with fail
        have hE2 := hE1.trans hb3
        refine hK.out _ _ ⟨⟨HBs.out.ext hE2, HBq.out.ext hE2⟩, 2, ba, bb, ga, gb, va, vb, .agg #[.int .i64 st, .slice A2 n c2, .int .i64 se, .int .i64 re, .int .i64 ag, .bool hv], .agg (dArr q), A2, c2, (by cases ba <;> cases bb <;> simp only [cond_true, cond_false] at hn ⊢ <;> omega), by decide, rfl, rfl, hE2, (fun _ => ⟨rfl, (kx (by decide)).2.ext hb3⟩), (fun _ => ⟨rfl, trivial⟩), (fun h => ⟨(ka h).1, (ka h).2.1.ext hb3, (ka h).2.2⟩), (fun h => ⟨(kb h).1, (kb h).2.1.ext hb3, (kb h).2.2⟩), dab, (fun _ => sxa (by omega)), (fun _ => sxb (by omega))⟩
      · refine inv_op rfl (fun K hK => ?_)
        go_simp
        try go_wp2_with fail
        have hE2 := hE1.alloc (.cells #[.int .i64 0, .slice none 0 0, .int .i64 0, .int .i64 0, .int .i64 0, .bool false] 34)
        refine hK.out _ _ ⟨⟨HBs.out.ext hE2, HBq.out.ext hE2⟩, k, true, bb, w1.heap.size, gb, .pointer (some ⟨w1.heap.size, 0, none⟩), vb, vx, vy, A2, c2, (by cases bb <;> simp only [cond_true, cond_false] at hn ⊢ <;> omega), hc, rfl, rfl, hE2, (fun h => ⟨(kx h).1, (kx h).2.alloc _⟩), (fun h => ⟨(ky h).1, trivial⟩), (fun _ => ⟨rfl, Blk.new w1 34 #[.int .i64 0, .slice none 0 0, .int .i64 0, .int .i64 0, .int .i64 0, .bool false], hE1.below.size⟩), (fun h => ⟨(kb h).1, (kb h).2.1.alloc _, (kb h).2.2⟩), (fun _ h => by have := (kb h).2.1.lt; omega), (fun h _ h0 a ha => by have := Rd.lowF (kx h).2 h0 a ha; omega), sxb⟩
      · refine inv_op rfl (fun K hK => ?_)
        go_simp
        try go_wp2_with fail
        have hE2 := hE1.alloc (.cells (dArr zeroD) 50)
        refine hK.out _ _ ⟨⟨HBs.out.ext hE2, HBq.out.ext hE2⟩, k, ba, true, ga, w1.heap.size, va, .pointer (some ⟨w1.heap.size, 0, none⟩), vx, vy, A2, c2, (by cases ba <;> simp only [cond_true, cond_false] at hn ⊢ <;> omega), hc, rfl, rfl, hE2, (fun h => ⟨(kx h).1, (kx h).2.alloc _⟩), (fun h => ⟨(ky h).1, trivial⟩), (fun h => ⟨(ka h).1, (ka h).2.1.alloc _, (ka h).2.2⟩), (fun _ => ⟨rfl, Blk.new w1 50 (dArr zeroD), hE1.below.size⟩), (fun h _ => by have := (ka h).2.1.lt; omega), sxa, (fun h _ h0 a ha => by have := Rd.lowF (kx h).2 h0 a ha; omega)⟩
end Go.Proofs.YtocniclkooiggaaDoor

namespace Go.Proofs.YtocniclkooiggaaDoor
open Go.RowKit

set_option maxHeartbeats 16000000 in
set_option maxRecDepth 100000 in
theorem plain_walk (st : Int) (A : Option Addr) (n c : Nat) (fs : List Fd) (se re ag : Int) (hv : Bool) (now ppm : Int) (w : World) (hf : RdF w A n fs) (hbk : fs.length + sumF fs ≤ 1048576) (hg : GlH w) (hgl : Gl w) :
    Calls Tryd.prog 7 #[.agg #[.int .i64 st, .slice A n c, .int .i64 se, .int .i64 re, .int .i64 ag, .bool hv], .agg #[.int .i64 now, .int .i64 ppm]] w fun e w' => e = .returned (.bool true) ∧ Ext w w' := by
  have HBs := Lib.hid ((Blk.new w 60 #[.int .i64 st, .slice A n c, .int .i64 se, .int .i64 re, .int .i64 ag, .bool hv]).alloc (.cells #[.int .i64 now, .int .i64 ppm] 63))
  have HBm := Lib.hid (show Blk ((w.alloc (.cells #[.int .i64 st, .slice A n c, .int .i64 se, .int .i64 re, .int .i64 ag, .bool hv] 60)).alloc (.cells #[.int .i64 now, .int .i64 ppm] 63)) (w.heap.size + 1) 63 #[.int .i64 now, .int .i64 ppm] by
    have h := Blk.new (w.alloc (.cells #[.int .i64 st, .slice A n c, .int .i64 se, .int .i64 re, .int .i64 ag, .bool hv] 60)) 63 #[.int .i64 now, .int .i64 ppm]
    rw [World.size_alloc] at h; exact h)
  have HE := Lib.hid (((Ext.refl w).alloc (.cells #[.int .i64 st, .slice A n c, .int .i64 se, .int .i64 re, .int .i64 ag, .bool hv] 60)).alloc (.cells #[.int .i64 now, .int .i64 ppm] 63))
  have Hnc := Lib.hid (fun h => @jdS_nocache ⟨st, fs, ⟨se, re, ag⟩, hv⟩ noneD now ppm h)
  have Hpl := Lib.hid (fun h => @jdS_plain ⟨st, fs, ⟨se, re, ag⟩, hv⟩ now ppm h)
  have Hfr := Lib.hid (show frS ⟨se, re, ag⟩ now ppm (lifeS ⟨st, fs, ⟨se, re, ag⟩, hv⟩) = match atO ⟨se, re, ag⟩ now ppm with | some p => decide (p.2 < (ofS st fs).1) | none => false from rfl)
  go_enter Tryd.func7, Tryd.ntmps7
  go_wp2_with fail
  generalize (w.alloc (.cells #[.int .i64 st, .slice A n c, .int .i64 se, .int .i64 re, .int .i64 ag, .bool hv] 60)).alloc (.cells #[.int .i64 now, .int .i64 ppm] 63) = W0 at *
  generalize hbq : w.heap.size = b at *
  refine (law17_large A n c fs _ (hf.ext HE.out) hbk).mono ?_; rintro e w1 ⟨rfl, hb1⟩
  cases hlg : lg17 fs
  rotate_left
  · have s1 := (HBs.out.ext hb1).cell 1
    go_wp2_with fail
    refine (law17_large A n c fs _ (hf.ext (HE.out.trans hb1)) hbk).mono ?_; rintro e w2 ⟨rfl, hb2⟩
    rw [hlg]
    go_wp2_with fail
    go_ret
    exact ⟨rfl, HE.out.trans (hb1.trans hb2)⟩
  have Hs := Lib.hid (lg_no17 hlg)
  have Hbs := Lib.hid ((bsz_of_sumF fs).mono (show sumF fs ≤ 1048576 by omega))
  have hn : n ≤ 3000 := by have := hf.lenF; have := Hs.out; omega
  have Hm := Lib.hid hn
  clear hlg hbk hn
  go_wp2_with fail
  refine (law17_awake _ (hg.ext (HE.out.trans hb1)) (hgl.ext (HE.out.trans hb1))).mono ?_; rintro e w2 ⟨rfl, hb2⟩
  have HW2 := Lib.hid (hb1.trans hb2)
  clear hb1 hb2
  have s0 := (HBs.out.ext HW2.out).cell 0
  have s1 := (HBs.out.ext HW2.out).cell 1
  have s2 := (HBs.out.ext HW2.out).cell 2
  have s3 := (HBs.out.ext HW2.out).cell 3
  have s4 := (HBs.out.ext HW2.out).cell 4
  have s5 := (HBs.out.ext HW2.out).cell 5
  go_wp2_with fail
  refine (law17_Stored st A n c fs se re ag hv _ (hf.ext (HE.out.trans HW2.out)) (by have := Hm.out; omega)).mono ?_; rintro e w3 ⟨A2, c2, rfl, hx3, hc3, hb3, _⟩
  clear s0 s1 s2 s3 s4 s5
  have hB4 := Blk.new w3 34 #[.int .i64 st, .slice A2 n c2, .int .i64 se, .int .i64 re, .int .i64 ag, .bool hv]
  have hb4 := hb3.alloc (.cells #[.int .i64 st, .slice A2 n c2, .int .i64 se, .int .i64 re, .int .i64 ag, .bool hv] 34)
  have HX4 := Lib.hid (hx3.alloc (.cells #[.int .i64 st, .slice A2 n c2, .int .i64 se, .int .i64 re, .int .i64 ag, .bool hv] 34))
  have HE4 := Lib.hid (HW2.out.trans hb4)
  have HS4 := Lib.hid hB4
  have HQ4 := Lib.hid (HBs.out.ext HE4.out)
  have HM4 := Lib.hid (HBm.out.ext HE4.out)
  clear hB4 hb4 hx3 hb3 HBs HBm
  go_wp2_with fail
  generalize w3.alloc (.cells #[.int .i64 st, .slice A2 n c2, .int .i64 se, .int .i64 re, .int .i64 ag, .bool hv] 34) = w4 at *
  generalize w3.heap.size = ga at *
  refine (dir_None _).mono ?_; rintro e w5 ⟨rfl, hb5⟩
  have HX5 := Lib.hid (HX4.out.ext hb5); have HS5 := Lib.hid (HS4.out.ext hb5); have HQ5 := Lib.hid (HQ4.out.ext hb5); have HM5 := Lib.hid (HM4.out.ext hb5); have HE5 := Lib.hid (HE4.out.trans hb5)
  clear hb5
  go_wp2_with (first
    | (refine wpList_storeB rfl 50 (.tmp 6) (.tmp 22) rfl rfl w5.heap.size _ rfl rfl 50 _ (Blk.new w5 _ _) infoDp rfl (dArr_one noneD) ?_; intro w6 hN6 hX6; have hb6 := ((Ext.refl w5).alloc (.cells (dArr zeroD) 50)).growB hX6 (Nat.le_refl _); have HX6 := Lib.hid (HX5.out.ext hb6); have HS6 := Lib.hid (HS5.out.ext hb6); have HQ6 := Lib.hid (HQ5.out.ext hb6); have HM6 := Lib.hid (HM5.out.ext hb6); have HE6 := Lib.hid (HE5.out.trans hb6); have m0 := HM6.out.cell 0; have m1 := HM6.out.cell 1; have HN6 := Lib.hid hN6; clear hb6 hN6 hX6)
    | (refine wpList_loadB rfl 34 (.tmp 5) rfl ga rfl 34 _ HS6.out _ Tryd.underlying34 infoSt ?_)
    | (refine wpList_loadB rfl 50 (.tmp 6) rfl w5.heap.size rfl 50 _ HN6.out _ Tryd.underlying50 infoDp ?_))
  refine (law17_rank st A2 n c2 fs se re ag hv noneD now ppm _ HX6.out (by have := Hm.out; omega) Hbs.out (hg.ext (HE.out.trans HE6.out)) (by have := Hs.out; have := Hm.out; omega) (hgl.ext (HE.out.trans HE6.out))).mono ?_; rintro e w7 ⟨rfl, hb7⟩
  have HX7 := Lib.hid (HX6.out.ext hb7); have HS7 := Lib.hid (HS6.out.ext hb7); have HQ7 := Lib.hid (HQ6.out.ext hb7); have HM7 := Lib.hid (HM6.out.ext hb7); have HE7 := Lib.hid (HE6.out.trans hb7)
  clear hb7 m0 m1
  generalize hJ : jdS ⟨st, fs, ⟨se, re, ag⟩, hv⟩ noneD now ppm = J at *
  have q0 := HQ7.out.cell 0
  have a1 := HS7.out.cell 1
  go_wp2_with fail
  refine (life_Of st A2 n c2 fs _ HX7.out (by have := Hm.out; omega) Hbs.out (hg.ext (HE.out.trans HE7.out)) (by have := Hs.out; have := Hm.out; omega) (hgl.ext (HE.out.trans HE7.out))).mono ?_; rintro e w8 ⟨rfl, hb8⟩
  have HX8 := Lib.hid (HX7.out.ext hb8); have HS8 := Lib.hid (HS7.out.ext hb8); have HQ8 := Lib.hid (HQ7.out.ext hb8); have HM8 := Lib.hid (HM7.out.ext hb8); have HE8 := Lib.hid (HE7.out.trans hb8)
  clear hb8 q0 a1
  have HPc := Lib.hid (show ∀ w', RdF w' A2 n fs → Gl w' → Calls Tryd.prog 27 #[.slice A2 n c2] w' fun e w'' => e = .returned (.agg (dArr (ccD fs))) ∧ Ext w' w'' from fun w' h hl => dir_Parse A2 n c2 fs w' h (by have := Hm.out; omega) Hbs.out hl)
  generalize hlife : lifeS ⟨st, fs, ⟨se, re, ag⟩, hv⟩ = life at *
  rw [show (ofS st fs).1 = life from hlife] at Hfr
  rw [show pairV (ofS st fs) = .tuple #[.int .i64 life, .int .i64 (ofS st fs).2] from by rw [← hlife]; rfl]
  generalize (ofS st fs).2 = kd at *
  have a1 := HS8.out.cell 1
  go_wp2_with fail
  refine (HPc.out _ HX8.out (hgl.ext (HE.out.trans HE8.out))).mono ?_; rintro e w9 ⟨rfl, hb9⟩
  have HX9 := Lib.hid (HX8.out.ext hb9); have HS9 := Lib.hid (HS8.out.ext hb9); have HQ9 := Lib.hid (HQ8.out.ext hb9); have HM9 := Lib.hid (HM8.out.ext hb9); have HE9 := Lib.hid (HE8.out.trans hb9)
  clear hb9 a1 HPc
  have m0 := HM9.out.cell 0
  have m1 := HM9.out.cell 1
  have a0 := HS9.out.cell 0
  have a1 := HS9.out.cell 1
  have a2 := HS9.out.cell 2
  have a3 := HS9.out.cell 3
  have a4 := HS9.out.cell 4
  have a5 := HS9.out.cell 5
  have q3 := HQ9.out.cell 5
  cases hD : (ccD fs).b1
  rotate_left
  · have hfd : ∀ w, (Instr.field 50 (.agg (dArr (ccD fs))) 1).run Tryd.prog w = .ok (.bool true) w := fun w => by rw [dp_fld1, hD]
    obtain ⟨j1, j2, j3⟩ := Hnc.out hD
    have jz : (J < 4) = False := by simp; omega
    have jz2 : ¬ J < 4 := by omega
    go_wp2_with fail
    refine (policy_OnError st A2 n c2 fs se re ag hv now ppm _ HX9.out (by have := Hm.out; omega) Hbs.out (hg.ext (HE.out.trans HE9.out)) (by have := Hs.out; have := Hm.out; omega) (hgl.ext (HE.out.trans HE9.out))).mono ?_; rintro e wA ⟨rfl, hbA⟩
    rw [j2]
    have HXA := Lib.hid (HX9.out.ext hbA); have HSA := Lib.hid (HS9.out.ext hbA); have HQA := Lib.hid (HQ9.out.ext hbA); have HMA := Lib.hid (HM9.out.ext hbA); have HEA := Lib.hid (HE9.out.trans hbA)
    have b0 := HSA.out.cell 0
    have b1 := HSA.out.cell 1
    have b2 := HSA.out.cell 2
    have b3 := HSA.out.cell 3
    have b4 := HSA.out.cell 4
    have b5 := HSA.out.cell 5
    go_wp2_with fail
    refine (policy_Limit st A2 n c2 fs se re ag hv _ HXA.out (by have := Hm.out; omega) Hbs.out (hg.ext (HE.out.trans HEA.out)) (by have := Hs.out; have := Hm.out; omega) (hgl.ext (HE.out.trans HEA.out))).mono ?_; rintro e wB ⟨rfl, hbB⟩
    rw [j3]
    go_wp2_with fail
    go_ret
    exact ⟨rfl, HE.out.trans (HEA.out.trans hbB)⟩
  · have hfd : ∀ w, (Instr.field 50 (.agg (dArr (ccD fs))) 1).run Tryd.prog w = .ok (.bool false) w := fun w => by rw [dp_fld1, hD]
    obtain ⟨j1, j2, j3⟩ := Hpl.out hD
    have hfr := Hfr.out
    have HFr := Lib.hid (fun w => show Calls Tryd.prog 28 #[.agg #[.int .i64 se, .int .i64 re, .int .i64 ag], .int .i64 now, .int .i64 ppm, .int .i64 life] w fun e w' => e = .returned (.bool (frS ⟨se, re, ag⟩ now ppm life)) ∧ Ext w w' from by rw [hfr]; exact age_Fresh se re ag now ppm life w)
    clear hfr Hfr
    generalize frS ⟨se, re, ag⟩ now ppm life = FR at *
    go_wp2_with fail
    refine (HFr.out _).mono ?_; rintro e wA ⟨rfl, hbA⟩
    have HXA := Lib.hid (HX9.out.ext hbA); have HSA := Lib.hid (HS9.out.ext hbA); have HQA := Lib.hid (HQ9.out.ext hbA); have HMA := Lib.hid (HM9.out.ext hbA); have HEA := Lib.hid (HE9.out.trans hbA)
    have q5 := HQA.out.cell 5
    have HJ := Lib.hid (⟨j1, j2, j3⟩ : _ ∧ _ ∧ _)
    clear j1 j2 j3 hlife hJ
    by_cases h1 : J = 1
    · obtain rfl : FR = true := by rw [← HJ.out.1]; exact decide_eq_true h1
      have z1 : (J == 1) = true := by rw [beq_iff_eq]; exact h1
      have z3 : (J == 3) = false := by rw [beq_eq_false_iff_ne]; omega
      have z4 : (J == 4) = false := by rw [beq_eq_false_iff_ne]; omega
      have z5 : (J != 4) = true := by simp; omega
      clear h1
      go_wp2_with fail
      go_ret
      exact ⟨rfl, HE.out.trans HEA.out⟩
    · obtain rfl : FR = false := by rw [← HJ.out.1]; exact decide_eq_false h1
      have z1 : (J == 1) = false := by rw [beq_eq_false_iff_ne]; exact h1
      have z3 : (J == 3) = false := by rw [beq_eq_false_iff_ne]; exact HJ.out.2.1
      by_cases h4 : J = 4
      · have h5 : hv = true := HJ.out.2.2 h4
        subst h5
        have z4 : (J == 4) = true := by rw [beq_iff_eq]; exact h4
        have z5 : (J != 4) = false := by simp; exact h4
        clear h1 h4
        go_wp2_with fail
        go_ret
        exact ⟨rfl, HE.out.trans HEA.out⟩
      · have z4 : (J == 4) = false := by rw [beq_eq_false_iff_ne]; exact h4
        have z5 : (J != 4) = true := by simp; exact h4
        clear h1 h4
        go_wp2_with fail
        go_ret
        exact ⟨rfl, HE.out.trans HEA.out⟩
end Go.Proofs.YtocniclkooiggaaDoor

namespace Go.Proofs.YtocniclkooiggaaDoor
open Go.RowKit

set_option maxHeartbeats 1000000 in
theorem clock_rate (off num den : Int) (w : World) (h1 : 1 ≤ num) (h2 : num ≤ 1048576) (h3 : 1 ≤ den) (h4 : den ≤ 1048576) : Calls Tryd.prog 32 #[.agg #[.int .i64 off, .int .i64 num, .int .i64 den]] w fun e w' => e = .returned (.bool true) ∧ Ext w w' := by
  go_enter Tryd.func32, Tryd.ntmps32
  go_wp2_with fail
  go_ret
  exact ⟨rfl, (Ext.refl w).alloc _⟩
set_option maxHeartbeats 4000000 in
set_option maxRecDepth 100000 in
theorem clock_Read (off num den t : Int) (w : World) (h1 : 1 ≤ num) (h2 : num ≤ 1048576) (h3 : 1 ≤ den) (h4 : den ≤ 1048576) (o0 : 0 ≤ off) (o1 : off ≤ 1099511627776) (t0 : 0 ≤ t) (t1 : t ≤ 1099511627776) :
    Calls Tryd.prog 12 #[.agg #[.int .i64 off, .int .i64 num, .int .i64 den], .int .i64 t] w fun e w' => e = .returned (.tuple #[.int .i64 (rdS off num den t), .nilIface]) ∧ Ext w w' := by
  have HR := Lib.hid (fun w => clock_rate off num den w h1 h2 h3 h4)
  have m0 : 0 ≤ t * num := Int.mul_nonneg t0 (by omega)
  have m1 : t * num ≤ 1152921504606846976 := by
    have := Int.mul_le_mul t1 h2 (by omega) (by omega)
    omega
  obtain ⟨q0, q1⟩ := ediv_bd (a := t * num) (b := den) m0 h3
  have q2 : (t * num).tdiv den = t * num / den := Int.tdiv_eq_ediv_of_nonneg m0
  have HV := Lib.hid (show rdS off num den t = off + t * num / den from rfl)
  generalize rdS off num den t = V at *
  have hw1 : IntKind.i64.wrap (t * num) = t * num := IntWalk.i64_in _ (by omega)
  have hw2 : IntKind.i64.wrap (t * num / den) = t * num / den := IntWalk.i64_in _ (by omega)
  have hw3 : IntKind.i64.wrap (off + t * num / den) = off + t * num / den := IntWalk.i64_in _ (by omega)
  have hz : (den == 0) = false := by rw [beq_eq_false_iff_ne]; omega
  have hz2 : den ≠ 0 := by omega
  have HB := Lib.hid (Blk.new w 39 #[.int .i64 off, .int .i64 num, .int .i64 den])
  have HW := Lib.hid ((Ext.refl w).alloc (.cells #[.int .i64 off, .int .i64 num, .int .i64 den] 39))
  go_enter Tryd.func12, Tryd.ntmps12
  go_wp2_with fail
  generalize w.alloc (.cells #[.int .i64 off, .int .i64 num, .int .i64 den] 39) = W0 at *
  generalize w.heap.size = b at *
  refine (HR.out _).mono ?_; rintro e w1 ⟨rfl, hb1⟩
  have c0 := (HB.out.ext hb1).cell 0
  have c1 := (HB.out.ext hb1).cell 1
  have c2 := (HB.out.ext hb1).cell 2
  go_wp2_with fail
  refine wp_region_held_drew (S := (fun w' => w'.cell? ⟨b, 0, none⟩ = some (.int .i64 off) ∧ w'.cell? ⟨b, 1, none⟩ = some (.int .i64 num) ∧ w'.cell? ⟨b, 2, none⟩ = some (.int .i64 den))) (by kernel_rfl) ?_ (fun hHeld => ?_)
  · (try dsimp only); exact ⟨(HB.out.ext hb1).cell 0, (HB.out.ext hb1).cell 1, (HB.out.ext hb1).cell 2⟩
  refine wpAnyH_take (i := 0) (oi := { dst := some 28, op := _, type := _, pos := _, after := _, guard := _ }) (v := ?_) rfl (by kernel_rfl) (by kernel_rfl) (by kernel_rfl) (fun _ _ _ h => h) (Or.inl ⟨by rfl, ?_⟩) (by assumption) ?_
  rotate_left
  · (intro w hSw; (try dsimp only at hSw); go_simp; (try with_reducible rfl))
  (try simp only [Act.put, List.setIfInBounds_toArray, List.set_cons_zero, List.set_cons_succ])
  refine wpAnyH_take (i := 1) (oi := { dst := some 29, op := _, type := _, pos := _, after := _, guard := _ }) (v := ?_) rfl (by kernel_rfl) (by kernel_rfl) (by kernel_rfl) (fun _ _ _ h => h) (Or.inl ⟨by rfl, ?_⟩) (by assumption) ?_
  rotate_left
  · (intro w hSw; (try dsimp only at hSw); go_simp; (try with_reducible rfl))
  (try simp only [Act.put, List.setIfInBounds_toArray, List.set_cons_zero, List.set_cons_succ])
  refine wpAnyH_take (i := 2) (oi := { dst := some 30, op := _, type := _, pos := _, after := _, guard := _ }) (v := ?_) rfl (by kernel_rfl) (by kernel_rfl) (by kernel_rfl) (fun _ _ _ h => h) (Or.inl ⟨by rfl, ?_⟩) (by assumption) ?_
  rotate_left
  · (intro w hSw; (try dsimp only at hSw); go_simp; (try with_reducible rfl))
  (try simp only [Act.put, List.setIfInBounds_toArray, List.set_cons_zero, List.set_cons_succ])
  refine wpAnyH_take (i := 3) (oi := { dst := some 31, op := _, type := _, pos := _, after := _, guard := _ }) (v := ?_) rfl (by kernel_rfl) (by kernel_rfl) (by kernel_rfl) (fun _ _ _ h => h) (Or.inl ⟨by rfl, ?_⟩) (by assumption) ?_
  rotate_left
  · (intro w hSw; (try dsimp only at hSw); go_simp; (try with_reducible rfl))
  (try simp only [Act.put, List.setIfInBounds_toArray, List.set_cons_zero, List.set_cons_succ])
  refine wpAnyH_take (i := 4) (oi := { dst := some 32, op := _, type := _, pos := _, after := _, guard := _ }) (v := ?_) rfl (by kernel_rfl) (by kernel_rfl) (by kernel_rfl) (fun _ _ _ h => h) (Or.inl ⟨by rfl, ?_⟩) (by assumption) ?_
  rotate_left
  · (intro w hSw; (try dsimp only at hSw); go_simp; (try with_reducible rfl))
  (try simp only [Act.put, List.setIfInBounds_toArray, List.set_cons_zero, List.set_cons_succ])
  refine wpAnyH_take (i := 5) (oi := { dst := some 33, op := _, type := _, pos := _, after := _, guard := _ }) (v := ?_) rfl (by kernel_rfl) (by kernel_rfl) (by kernel_rfl) (fun _ _ _ h => h) (Or.inl ⟨by rfl, ?_⟩) (by assumption) ?_
  rotate_left
  · (intro w hSw; (try dsimp only at hSw); go_simp; (try with_reducible rfl))
  (try simp only [Act.put, List.setIfInBounds_toArray, List.set_cons_zero, List.set_cons_succ])
  refine wpAnyH_take (i := 6) (oi := { dst := some 34, op := _, type := _, pos := _, after := _, guard := _ }) (v := ?_) rfl (by kernel_rfl) (by kernel_rfl) (by kernel_rfl) (fun _ _ _ h => h) (Or.inl ⟨by rfl, ?_⟩) (by assumption) ?_
  rotate_left
  · (intro w hSw; (try dsimp only at hSw); go_simp; (try with_reducible rfl))
  (try simp only [Act.put, List.setIfInBounds_toArray, List.set_cons_zero, List.set_cons_succ])
  refine wpAnyH_take (i := 7) (oi := { dst := some 35, op := _, type := _, pos := _, after := _, guard := _ }) (v := ?_) rfl (by kernel_rfl) (by kernel_rfl) (by kernel_rfl) (fun _ _ _ h => h) (Or.inl ⟨by rfl, ?_⟩) (by assumption) ?_
  rotate_left
  · (intro w hSw; (try dsimp only at hSw); go_simp; (try with_reducible rfl))
  (try simp only [Act.put, List.setIfInBounds_toArray, List.set_cons_zero, List.set_cons_succ])
  refine wpAnyH_take (i := 8) (oi := { dst := some 36, op := _, type := _, pos := _, after := _, guard := _ }) (v := ?_) rfl (by kernel_rfl) (by kernel_rfl) (by kernel_rfl) (fun _ _ _ h => h) (Or.inl ⟨by rfl, ?_⟩) (by assumption) ?_
  rotate_left
  · (intro w hSw; (try dsimp only at hSw); go_simp; (try with_reducible rfl))
  (try simp only [Act.put, List.setIfInBounds_toArray, List.set_cons_zero, List.set_cons_succ])
  refine wpAnyH_take (i := 9) (oi := { dst := some 37, op := _, type := _, pos := _, after := _, guard := _ }) (v := ?_) rfl (by kernel_rfl) (by kernel_rfl) (by kernel_rfl) (fun _ _ _ h => h) (Or.inl ⟨by rfl, ?_⟩) (by assumption) ?_
  rotate_left
  · (intro w hSw; (try dsimp only at hSw); go_simp; (try with_reducible rfl))
  (try simp only [Act.put, List.setIfInBounds_toArray, List.set_cons_zero, List.set_cons_succ])
  refine wpAnyH_take (i := 10) (oi := { dst := some 4, op := _, type := _, pos := _, after := _, guard := _ }) (v := ?_) rfl (by kernel_rfl) (by kernel_rfl) (by kernel_rfl) (fun _ _ _ h => h) (Or.inl ⟨by rfl, ?_⟩) (by assumption) ?_
  rotate_left
  · (intro w hSw; (try dsimp only at hSw); go_simp; (try with_reducible rfl))
  (try simp only [Act.put, List.setIfInBounds_toArray, List.set_cons_zero, List.set_cons_succ])
  refine wpAnyH_take (i := 11) (oi := { dst := some 5, op := _, type := _, pos := _, after := _, guard := _ }) (v := ?_) rfl (by kernel_rfl) (by kernel_rfl) (by kernel_rfl) (fun _ _ _ h => h) (Or.inl ⟨by rfl, ?_⟩) (by assumption) ?_
  rotate_left
  · (intro w hSw; (try dsimp only at hSw); go_simp; (try with_reducible rfl))
  (try simp only [Act.put, List.setIfInBounds_toArray, List.set_cons_zero, List.set_cons_succ])
  refine wpAnyH_done (by kernel_rfl) ?_ _
  go_wp2_with fail
  go_ret2
  exact ⟨ret_t (by rw [HV.out]; first | rfl | (rw [q2]; rfl)), (HW.out.trans hb1).drew⟩
set_option maxHeartbeats 1000000 in
theorem ref12_Ppm (n : Int) (w : World) : Calls Tryd.prog 45 #[.int .i64 n] w fun e w' => e = .returned (.int .i64 (clP n)) ∧ w' = w := by
  have HC := Lib.hid (base_Clip n 0 100000)
  go_enter Tryd.func45, Tryd.ntmps45
  go_wp2_with fail
  refine (HC.out _).mono ?_; rintro e w1 ⟨rfl, rfl⟩
  go_wp2_with fail
  go_ret
  exact ⟨rfl, rfl⟩

def lfM (ppm : Int) : Int := clP ppm * 1024 / 1000000
def lfV (ppm part : Int) : Int := lfM ppm * part / 255
theorem lfM_bd (ppm : Int) : 0 ≤ lfM ppm ∧ lfM ppm ≤ 102 ∧ lfM ppm * 1000000 ≤ clP ppm * 1024 := by
  have := clP_bd ppm
  unfold lfM; omega
theorem lfV_bd {ppm part : Int} (h0 : 0 ≤ part) (h1 : part ≤ 255) : 0 ≤ lfV ppm part ∧ lfV ppm part ≤ lfM ppm ∧ 0 ≤ lfM ppm * part ∧ lfM ppm * part ≤ 26010 := by
  obtain ⟨m0, m1, _⟩ := lfM_bd ppm
  have a0 : 0 ≤ lfM ppm * part := Int.mul_nonneg m0 h0
  have a1 : lfM ppm * part ≤ lfM ppm * 255 := Int.mul_le_mul_of_nonneg_left h1 m0
  unfold lfV
  omega
/-- By any clock within its bound the true age is at most the upper bound. -/
theorem life_true {ppm n sent t2 T old : Int} (h : -lfM ppm ≤ n) (h' : n ≤ lfM ppm) (hs : 0 ≤ sent) (h2 : sent ≤ t2) (h3 : t2 ≤ T) (h4 : T ≤ 20000000) (ho : old ≤ T - sent) :
    ∀ p, atO ⟨rdS 77 (1024 + n) 1024 sent, rdS 77 (1024 + n) 1024 t2, -1⟩ (rdS 77 (1024 + n) 1024 T) ppm = some p → old ≤ p.2 := by
  intro p hp
  obtain ⟨m0, m1, m2⟩ := lfM_bd ppm
  have hP := clP_bd ppm
  have key := rd_true (off := 77) (num := 1024 + n) (den := 1024) (t0 := sent) (t1 := T) (P := clP ppm) (by decide) hP.1 hP.2 (by omega) (by omega)
  have bd : ∀ t, 0 ≤ t → t ≤ 20000000 → 0 ≤ rdS 77 (1024 + n) 1024 t ∧ rdS 77 (1024 + n) 1024 t ≤ 1099511627776 := fun t a c => by
    unfold rdS
    have e0 : 0 ≤ t * (1024 + n) := Int.mul_nonneg a (by omega)
    have e1 : t * (1024 + n) ≤ 20000000 * 1126 := Int.mul_le_mul c (by omega) (by omega) (by decide)
    omega
  have b1 := bd sent hs (by omega)
  have b2 := bd t2 (by omega) (by omega)
  have b3 := bd T (by omega) h4
  unfold atO at hp
  simp only [clT_id b1.1 b1.2, clT_id b2.1 b2.2, clT_id b3.1 b3.2] at hp
  split at hp
  · cases hp
  · injection hp with hp
    rw [← hp]
    show old ≤ elHi _ _ + exA (-1)
    rw [show exA (-1) = 0 by decide]
    omega

set_option maxHeartbeats 16000000 in
set_option maxRecDepth 100000 in
theorem law17_moments (x0 x1 x2 x3 x4 x6 : Int) (x5 : Bool) (w : World) (a0 : 0 ≤ x0) (a1 : x0 ≤ 65535) (b0 : 0 ≤ x1) (b1 : x1 ≤ 65535) (c0 : 0 ≤ x2) (c1 : x2 ≤ 65535) (d0 : 0 ≤ x3) (d1 : x3 ≤ 255) (e0 : 0 ≤ x4) (e1 : x4 ≤ 255) :
    Calls Tryd.prog 29 #[.agg #[.int .u16 x0, .int .u16 x1, .int .u16 x2, .int .u8 x3, .int .u8 x4, .bool x5, .int .i64 x6]] w fun e w' => ∃ ra rb rc old : Int, e = .returned (.tuple #[.agg #[.int .i64 ra, .int .i64 rb, .int .i64 (-1)], .int .i64 rc, .int .i64 old, .bool true]) ∧ Ext w w' ∧
      ∀ p, atO ⟨ra, rb, -1⟩ rc x6 = some p → old ≤ p.2 := by
  obtain ⟨m0, m1, m2⟩ := lfM_bd x6
  obtain ⟨v0, v1, v2, v3⟩ := lfV_bd (ppm := x6) e0 e1
  have p0 := clP_bd x6
  obtain ⟨p0, p1⟩ := p0
  have n0 : 0 ≤ x2 * (1 + x3) := Int.mul_nonneg c0 (by omega)
  have n1 : x2 * (1 + x3) ≤ 65535 * 256 := Int.mul_le_mul c1 (by omega) (by omega) (by decide)
  have hlm : clP x6 * 1024 / 1000000 = lfM x6 := rfl
  have hlv : lfM x6 * x4 / 255 = lfV x6 x4 := rfl
  have HT0 := Lib.hid (fun n sent t2 T old h h' hs h2 h3 h4 ho => @life_true x6 n sent t2 T old h h' hs h2 h3 h4 ho)
  have HP := Lib.hid (ref12_Ppm x6)
  have HBl := Lib.hid ((Blk.new w 77 #[.int .u16 x0, .int .u16 x1, .int .u16 x2, .int .u8 x3, .int .u8 x4, .bool x5, .int .i64 x6]).alloc (.cells #[.int .i64 0, .int .i64 0, .int .i64 0] 32))
  have HBt := Lib.hid (show Blk ((w.alloc (.cells #[.int .u16 x0, .int .u16 x1, .int .u16 x2, .int .u8 x3, .int .u8 x4, .bool x5, .int .i64 x6] 77)).alloc (.cells #[.int .i64 0, .int .i64 0, .int .i64 0] 32)) (w.heap.size + 1) 32 #[.int .i64 0, .int .i64 0, .int .i64 0] by
    have h := Blk.new (w.alloc (.cells #[.int .u16 x0, .int .u16 x1, .int .u16 x2, .int .u8 x3, .int .u8 x4, .bool x5, .int .i64 x6] 77)) 32 #[.int .i64 0, .int .i64 0, .int .i64 0]
    rw [World.size_alloc] at h; exact h)
  have HE := Lib.hid (((Ext.refl w).alloc (.cells #[.int .u16 x0, .int .u16 x1, .int .u16 x2, .int .u8 x3, .int .u8 x4, .bool x5, .int .i64 x6] 77)).alloc (.cells #[.int .i64 0, .int .i64 0, .int .i64 0] 32))
  generalize clP x6 = P at *
  generalize lfM x6 = M at *
  generalize lfV x6 x4 = V at *
  cases x5
  rotate_left
  · have HS5 := Lib.hid (fun t w h0 h1 => clock_Read 77 (1024 + -V) 1024 t w (by omega) (by omega) (by omega) (by omega) (by omega) (by omega) h0 h1)
    have HT := Lib.hid (fun (T : Int) (h3 : 5000 + x0 + x1 ≤ T) (h4 : T ≤ 20000000) => HT0.out (-V) 5000 (5000 + x0 + x1) T (T - (5000 + x0)) (by omega) (by omega) (by omega) (by omega) h3 h4 (by omega))
    go_enter Tryd.func29, Tryd.ntmps29
    go_wp2_with fail
    generalize (w.alloc (.cells #[.int .u16 x0, .int .u16 x1, .int .u16 x2, .int .u8 x3, .int .u8 x4, .bool true, .int .i64 x6] 77)).alloc (.cells #[.int .i64 0, .int .i64 0, .int .i64 0] 32) = W0 at *
    generalize hbq : w.heap.size = b at *
    refine (HP.out _).mono ?_; rintro e w1 ⟨rfl, rfl⟩
    have l0 := HBl.out.cell 0
    have l1 := HBl.out.cell 1
    have l2 := HBl.out.cell 2
    have l3 := HBl.out.cell 3
    have l4 := HBl.out.cell 4
    have l5 := HBl.out.cell 5
    have hlt := HBl.out.lt
    go_wp2_with fail
    have HZ := Lib.hid ((Ext.refl w1).alloc (.cells #[.int .i64 77, .int .i64 (1024 + -V), .int .i64 1024] 39))
    have HK := Lib.hid (Blk.new w1 39 #[.int .i64 77, .int .i64 (1024 + -V), .int .i64 1024])
    refine (HS5.out 5000 _ (by omega) (by omega)).mono ?_; rintro e w2 ⟨rfl, hb2⟩
    have hZ2 := HZ.out.trans hb2
    have k0 := (HK.out.ext hb2).cell 0
    have k1 := (HK.out.ext hb2).cell 1
    have k2 := (HK.out.ext hb2).cell 2
    clear l0 l1 l2 l3 l4 l5
    go_wp2_with fail
    refine (HS5.out (5000 + x0 + x1) _ (by omega) (by omega)).mono ?_; rintro e w3 ⟨rfl, hb3⟩
    have hZ3 := hZ2.trans hb3
    replace k0 := hb3.cell k0
    replace k1 := hb3.cell k1
    replace k2 := hb3.cell k2
    go_wp2_with fail
    refine (HS5.out (5000 + x0 + x1 + x2 * (1 + x3)) _ (by omega) (by omega)).mono ?_; rintro e w4 ⟨rfl, hb4⟩
    have hZ4 := hZ3.trans hb4
    have Hfin := Lib.hid (HT.out (5000 + x0 + x1 + x2 * (1 + x3)) (by omega) (by omega))
    clear HT HS5
    generalize rdS 77 (1024 + -V) 1024 5000 = ra at *
    generalize rdS 77 (1024 + -V) 1024 (5000 + x0 + x1) = rb at *
    generalize rdS 77 (1024 + -V) 1024 (5000 + x0 + x1 + x2 * (1 + x3)) = rc at *
    have HZ4 := Lib.hid hZ4
    clear k0 k1 k2 hZ2 hZ3 hZ4 hb2 hb3 hb4 HZ HK
    go_wp2_with fail
    have hB2 := (HBt.out.ext HZ4.out).drew
    refine wp_region_held_drew (S := (fun _ => True)) (by kernel_rfl) ?_ (fun hHeld => ?_)
    · (try dsimp only); (try trivial)
    refine wpAnyH_take (i := 0) (oi := { dst := some 75, op := _, type := _, pos := _, after := _, guard := _ }) (v := ?_) rfl (by kernel_rfl) (by kernel_rfl) (by kernel_rfl) (fun _ _ _ h => h) (Or.inl ⟨by rfl, ?_⟩) (by assumption) ?_
    rotate_left
    · (intro w hSw; (try dsimp only at hSw); go_simp; (try with_reducible rfl))
    (try simp only [Act.put, List.setIfInBounds_toArray, List.set_cons_zero, List.set_cons_succ])
    refine wpAnyH_take (i := 1) (oi := { dst := some 76, op := _, type := _, pos := _, after := _, guard := _ }) (v := ?_) rfl (by kernel_rfl) (by kernel_rfl) (by kernel_rfl) (fun _ _ _ h => h) (Or.inl ⟨by rfl, ?_⟩) (by assumption) ?_
    rotate_left
    · (intro w hSw; (try dsimp only at hSw); go_simp; (try with_reducible rfl))
    (try simp only [Act.put, List.setIfInBounds_toArray, List.set_cons_zero, List.set_cons_succ])
    refine wpAnyH_take (i := 2) (oi := { dst := some 77, op := _, type := _, pos := _, after := _, guard := _ }) (v := ?_) rfl (by kernel_rfl) (by kernel_rfl) (by kernel_rfl) (fun _ _ _ h => h) (Or.inl ⟨by rfl, ?_⟩) (by assumption) ?_
    rotate_left
    · (intro w hSw; (try dsimp only at hSw); go_simp; (try with_reducible rfl))
    (try simp only [Act.put, List.setIfInBounds_toArray, List.set_cons_zero, List.set_cons_succ])
    refine wpAnyH_take (i := 3) (oi := { dst := some 78, op := _, type := _, pos := _, after := _, guard := _ }) (v := ?_) rfl (by kernel_rfl) (by kernel_rfl) (by kernel_rfl) (fun _ _ _ h => h) (Or.inl ⟨by rfl, ?_⟩) (by assumption) ?_
    rotate_left
    · (intro w hSw; (try dsimp only at hSw); go_simp; (try with_reducible rfl))
    (try simp only [Act.put, List.setIfInBounds_toArray, List.set_cons_zero, List.set_cons_succ])
    refine wpAnyH_take (i := 4) (oi := { dst := some 79, op := _, type := _, pos := _, after := _, guard := _ }) (v := ?_) rfl (by kernel_rfl) (by kernel_rfl) (by kernel_rfl) (fun _ _ _ h => h) (Or.inl ⟨by rfl, ?_⟩) (by assumption) ?_
    rotate_left
    · (intro w hSw; (try dsimp only at hSw); go_simp; (try with_reducible rfl))
    (try simp only [Act.put, List.setIfInBounds_toArray, List.set_cons_zero, List.set_cons_succ])
    refine wpAnyH_take (i := 5) (oi := { dst := some 80, op := _, type := _, pos := _, after := _, guard := _ }) (v := ?_) rfl (by kernel_rfl) (by kernel_rfl) (by kernel_rfl) (fun _ _ _ h => h) (Or.inl ⟨by rfl, ?_⟩) (by assumption) ?_
    rotate_left
    · (intro w hSw; (try dsimp only at hSw); go_simp; (try with_reducible rfl))
    (try simp only [Act.put, List.setIfInBounds_toArray, List.set_cons_zero, List.set_cons_succ])
    refine wpAnyH_take (i := 6) (oi := { dst := some 81, op := _, type := _, pos := _, after := _, guard := _ }) (v := ?_) rfl (by kernel_rfl) (by kernel_rfl) (by kernel_rfl) (fun _ _ _ h => h) (Or.inl ⟨by rfl, ?_⟩) (by assumption) ?_
    rotate_left
    · (intro w hSw; (try dsimp only at hSw); go_simp; (try with_reducible rfl))
    (try simp only [Act.put, List.setIfInBounds_toArray, List.set_cons_zero, List.set_cons_succ])
    refine wpAnyH_take (i := 7) (oi := { dst := some 82, op := _, type := _, pos := _, after := _, guard := _ }) (v := ?_) rfl (by kernel_rfl) (by kernel_rfl) (by kernel_rfl) (fun _ _ _ h => h) (Or.inl ⟨by rfl, ?_⟩) (by assumption) ?_
    rotate_left
    · (intro w hSw; (try dsimp only at hSw); go_simp; (try with_reducible rfl))
    (try simp only [Act.put, List.setIfInBounds_toArray, List.set_cons_zero, List.set_cons_succ])
    refine wpAnyH_take (i := 8) (oi := { dst := some 83, op := _, type := _, pos := _, after := _, guard := _ }) (v := ?_) rfl (by kernel_rfl) (by kernel_rfl) (by kernel_rfl) (fun _ _ _ h => h) (Or.inl ⟨by rfl, ?_⟩) (by assumption) ?_
    rotate_left
    · (intro w hSw; (try dsimp only at hSw); go_simp; (try with_reducible rfl))
    (try simp only [Act.put, List.setIfInBounds_toArray, List.set_cons_zero, List.set_cons_succ])
    refine wpAnyH_take (i := 9) (oi := { dst := some 84, op := _, type := _, pos := _, after := _, guard := _ }) (v := ?_) rfl (by kernel_rfl) (by kernel_rfl) (by kernel_rfl) (fun _ _ _ h => h) (Or.inl ⟨by rfl, ?_⟩) (by assumption) ?_
    rotate_left
    · (intro w hSw; (try dsimp only at hSw); go_simp; (try with_reducible rfl))
    (try simp only [Act.put, List.setIfInBounds_toArray, List.set_cons_zero, List.set_cons_succ])
    refine wpAnyH_take (i := 10) (oi := { dst := some 85, op := _, type := _, pos := _, after := _, guard := _ }) (v := ?_) rfl (by kernel_rfl) (by kernel_rfl) (by kernel_rfl) (fun _ _ _ h => h) (Or.inl ⟨by rfl, ?_⟩) (by assumption) ?_
    rotate_left
    · (intro w hSw; (try dsimp only at hSw); go_simp; (try with_reducible rfl))
    (try simp only [Act.put, List.setIfInBounds_toArray, List.set_cons_zero, List.set_cons_succ])
    refine wpAnyH_take (i := 11) (oi := { dst := some 86, op := _, type := _, pos := _, after := _, guard := _ }) (v := ?_) rfl (by kernel_rfl) (by kernel_rfl) (by kernel_rfl) (fun _ _ _ h => h) (Or.inl ⟨by rfl, ?_⟩) (by assumption) ?_
    rotate_left
    · (intro w hSw; (try dsimp only at hSw); go_simp; (try with_reducible rfl))
    (try simp only [Act.put, List.setIfInBounds_toArray, List.set_cons_zero, List.set_cons_succ])
    refine wpAnyH_take (i := 12) (oi := { dst := some 87, op := _, type := _, pos := _, after := _, guard := _ }) (v := ?_) rfl (by kernel_rfl) (by kernel_rfl) (by kernel_rfl) (fun _ _ _ h => h) (Or.inl ⟨by rfl, ?_⟩) (by assumption) ?_
    rotate_left
    · (intro w hSw; (try dsimp only at hSw); go_simp; (try with_reducible rfl))
    (try simp only [Act.put, List.setIfInBounds_toArray, List.set_cons_zero, List.set_cons_succ])
    refine wpAnyH_take (i := 13) (oi := { dst := some 88, op := _, type := _, pos := _, after := _, guard := _ }) (v := ?_) rfl (by kernel_rfl) (by kernel_rfl) (by kernel_rfl) (fun _ _ _ h => h) (Or.inl ⟨by rfl, ?_⟩) (by assumption) ?_
    rotate_left
    · (intro w hSw; (try dsimp only at hSw); go_simp; (try with_reducible rfl))
    (try simp only [Act.put, List.setIfInBounds_toArray, List.set_cons_zero, List.set_cons_succ])
    refine wpAnyH_take (i := 14) (oi := { dst := some 89, op := _, type := _, pos := _, after := _, guard := _ }) (v := ?_) rfl (by kernel_rfl) (by kernel_rfl) (by kernel_rfl) (fun _ _ _ h => h) (Or.inl ⟨by rfl, ?_⟩) (by assumption) ?_
    rotate_left
    · (intro w hSw; (try dsimp only at hSw); go_simp; (try with_reducible rfl))
    (try simp only [Act.put, List.setIfInBounds_toArray, List.set_cons_zero, List.set_cons_succ])
    refine wpAnyH_take (i := 15) (oi := { dst := some 90, op := _, type := _, pos := _, after := _, guard := _ }) (v := ?_) rfl (by kernel_rfl) (by kernel_rfl) (by kernel_rfl) (fun _ _ _ h => h) (Or.inl ⟨by rfl, ?_⟩) (by assumption) ?_
    rotate_left
    · (intro w hSw; (try dsimp only at hSw); go_simp; (try with_reducible rfl))
    (try simp only [Act.put, List.setIfInBounds_toArray, List.set_cons_zero, List.set_cons_succ])
    refine wpAnyH_take (i := 16) (oi := { dst := some 91, op := _, type := _, pos := _, after := _, guard := _ }) (v := ?_) rfl (by kernel_rfl) (by kernel_rfl) (by kernel_rfl) (fun _ _ _ h => h) (Or.inl ⟨by rfl, ?_⟩) (by assumption) ?_
    rotate_left
    · (intro w hSw; (try dsimp only at hSw); go_simp; (try with_reducible rfl))
    (try simp only [Act.put, List.setIfInBounds_toArray, List.set_cons_zero, List.set_cons_succ])
    refine wpAnyH_ready (rs := [17]) (by kernel_rfl) (by simp) ?_
    refine AllReadyH.cons (o := { dst := none, op := _, type := _, pos := _, after := _, guard := _ }) rfl (fun K hK => ?_) AllReadyH.nil
    refine step_storeB rfl 32 (.tmp 2) (.tmp 77) rfl rfl (b + 1) _ rfl rfl 32 _ hB2 infoTm rfl (by simp [Value.oneCell']) ?_; intro w5 hN5 hX5
    refine hK.out _ _ ?_ (fun hHeld => ?_)
    · (try dsimp only); (try trivial)
    clear hK K
    (try simp only [Act.put, List.setIfInBounds_toArray, List.set_cons_zero, List.set_cons_succ])
    refine wpAnyH_take (i := 18) (oi := { dst := some 3, op := _, type := _, pos := _, after := _, guard := _ }) (v := ?_) rfl (by kernel_rfl) (by kernel_rfl) (by kernel_rfl) (fun _ _ _ h => h) (Or.inl ⟨by rfl, ?_⟩) (by assumption) ?_
    rotate_left
    · (intro w hSw; (try dsimp only at hSw); go_simp; (try with_reducible rfl))
    (try simp only [Act.put, List.setIfInBounds_toArray, List.set_cons_zero, List.set_cons_succ])
    refine wpAnyH_take (i := 19) (oi := { dst := some 4, op := _, type := _, pos := _, after := _, guard := _ }) (v := ?_) rfl (by kernel_rfl) (by kernel_rfl) (by kernel_rfl) (fun _ _ _ h => h) (Or.inl ⟨by rfl, ?_⟩) (by assumption) ?_
    rotate_left
    · (intro w hSw; (try dsimp only at hSw); go_simp; (try with_reducible rfl))
    (try simp only [Act.put, List.setIfInBounds_toArray, List.set_cons_zero, List.set_cons_succ])
    refine wpAnyH_take (i := 20) (oi := { dst := some 5, op := _, type := _, pos := _, after := _, guard := _ }) (v := ?_) rfl (by kernel_rfl) (by kernel_rfl) (by kernel_rfl) (fun _ _ _ h => h) (Or.inl ⟨by rfl, ?_⟩) (by assumption) ?_
    rotate_left
    · (intro w hSw; (try dsimp only at hSw); go_simp; (try with_reducible rfl))
    (try simp only [Act.put, List.setIfInBounds_toArray, List.set_cons_zero, List.set_cons_succ])
    refine wpAnyH_done (by kernel_rfl) ?_ _
    have y0 := hN5.cell 0
    have y1 := hN5.cell 1
    have y2 := hN5.cell 2
    have hwr : IntKind.i64.wrap (5000 + x0 + x1 + x2 * (1 + x3) - (5000 + x0)) = 5000 + x0 + x1 + x2 * (1 + x3) - (5000 + x0) := IntWalk.i64_in _ (by omega)
    have HF := Lib.hid ((HE.out.trans (HZ4.out.drew)).growB hX5 (by omega))
    clear hX5 hB2
    go_wp2_with fail
    exact bodyPost_ret (v := .tuple #[.agg #[.int .i64 ra, .int .i64 rb, .int .i64 (-1)], .int .i64 rc, .int .i64 (5000 + x0 + x1 + x2 * (1 + x3) - (5000 + x0)), .bool true]) (by simp [results, Tryd.results29, go_sem, y0, y1, y2, hwr]) rfl ⟨ra, rb, rc, _, rfl, HF.out, Hfin.out⟩
  · have HS5 := Lib.hid (fun t w h0 h1 => clock_Read 77 (1024 + V) 1024 t w (by omega) (by omega) (by omega) (by omega) (by omega) (by omega) h0 h1)
    have HT := Lib.hid (fun (T : Int) (h3 : 5000 + x0 + x1 ≤ T) (h4 : T ≤ 20000000) => HT0.out (V) 5000 (5000 + x0 + x1) T (T - (5000 + x0)) (by omega) (by omega) (by omega) (by omega) h3 h4 (by omega))
    go_enter Tryd.func29, Tryd.ntmps29
    go_wp2_with fail
    generalize (w.alloc (.cells #[.int .u16 x0, .int .u16 x1, .int .u16 x2, .int .u8 x3, .int .u8 x4, .bool false, .int .i64 x6] 77)).alloc (.cells #[.int .i64 0, .int .i64 0, .int .i64 0] 32) = W0 at *
    generalize hbq : w.heap.size = b at *
    refine (HP.out _).mono ?_; rintro e w1 ⟨rfl, rfl⟩
    have l0 := HBl.out.cell 0
    have l1 := HBl.out.cell 1
    have l2 := HBl.out.cell 2
    have l3 := HBl.out.cell 3
    have l4 := HBl.out.cell 4
    have l5 := HBl.out.cell 5
    have hlt := HBl.out.lt
    go_wp2_with fail
    have HZ := Lib.hid ((Ext.refl w1).alloc (.cells #[.int .i64 77, .int .i64 (1024 + V), .int .i64 1024] 39))
    have HK := Lib.hid (Blk.new w1 39 #[.int .i64 77, .int .i64 (1024 + V), .int .i64 1024])
    refine (HS5.out 5000 _ (by omega) (by omega)).mono ?_; rintro e w2 ⟨rfl, hb2⟩
    have hZ2 := HZ.out.trans hb2
    have k0 := (HK.out.ext hb2).cell 0
    have k1 := (HK.out.ext hb2).cell 1
    have k2 := (HK.out.ext hb2).cell 2
    clear l0 l1 l2 l3 l4 l5
    go_wp2_with fail
    refine (HS5.out (5000 + x0 + x1) _ (by omega) (by omega)).mono ?_; rintro e w3 ⟨rfl, hb3⟩
    have hZ3 := hZ2.trans hb3
    replace k0 := hb3.cell k0
    replace k1 := hb3.cell k1
    replace k2 := hb3.cell k2
    go_wp2_with fail
    refine (HS5.out (5000 + x0 + x1 + x2 * (1 + x3)) _ (by omega) (by omega)).mono ?_; rintro e w4 ⟨rfl, hb4⟩
    have hZ4 := hZ3.trans hb4
    have Hfin := Lib.hid (HT.out (5000 + x0 + x1 + x2 * (1 + x3)) (by omega) (by omega))
    clear HT HS5
    generalize rdS 77 (1024 + V) 1024 5000 = ra at *
    generalize rdS 77 (1024 + V) 1024 (5000 + x0 + x1) = rb at *
    generalize rdS 77 (1024 + V) 1024 (5000 + x0 + x1 + x2 * (1 + x3)) = rc at *
    have HZ4 := Lib.hid hZ4
    clear k0 k1 k2 hZ2 hZ3 hZ4 hb2 hb3 hb4 HZ HK
    go_wp2_with fail
    have hB2 := (HBt.out.ext HZ4.out).drew
    refine wp_region_held_drew (S := (fun _ => True)) (by kernel_rfl) ?_ (fun hHeld => ?_)
    · (try dsimp only); (try trivial)
    refine wpAnyH_take (i := 0) (oi := { dst := some 75, op := _, type := _, pos := _, after := _, guard := _ }) (v := ?_) rfl (by kernel_rfl) (by kernel_rfl) (by kernel_rfl) (fun _ _ _ h => h) (Or.inl ⟨by rfl, ?_⟩) (by assumption) ?_
    rotate_left
    · (intro w hSw; (try dsimp only at hSw); go_simp; (try with_reducible rfl))
    (try simp only [Act.put, List.setIfInBounds_toArray, List.set_cons_zero, List.set_cons_succ])
    refine wpAnyH_take (i := 1) (oi := { dst := some 76, op := _, type := _, pos := _, after := _, guard := _ }) (v := ?_) rfl (by kernel_rfl) (by kernel_rfl) (by kernel_rfl) (fun _ _ _ h => h) (Or.inl ⟨by rfl, ?_⟩) (by assumption) ?_
    rotate_left
    · (intro w hSw; (try dsimp only at hSw); go_simp; (try with_reducible rfl))
    (try simp only [Act.put, List.setIfInBounds_toArray, List.set_cons_zero, List.set_cons_succ])
    refine wpAnyH_take (i := 2) (oi := { dst := some 77, op := _, type := _, pos := _, after := _, guard := _ }) (v := ?_) rfl (by kernel_rfl) (by kernel_rfl) (by kernel_rfl) (fun _ _ _ h => h) (Or.inl ⟨by rfl, ?_⟩) (by assumption) ?_
    rotate_left
    · (intro w hSw; (try dsimp only at hSw); go_simp; (try with_reducible rfl))
    (try simp only [Act.put, List.setIfInBounds_toArray, List.set_cons_zero, List.set_cons_succ])
    refine wpAnyH_take (i := 3) (oi := { dst := some 78, op := _, type := _, pos := _, after := _, guard := _ }) (v := ?_) rfl (by kernel_rfl) (by kernel_rfl) (by kernel_rfl) (fun _ _ _ h => h) (Or.inl ⟨by rfl, ?_⟩) (by assumption) ?_
    rotate_left
    · (intro w hSw; (try dsimp only at hSw); go_simp; (try with_reducible rfl))
    (try simp only [Act.put, List.setIfInBounds_toArray, List.set_cons_zero, List.set_cons_succ])
    refine wpAnyH_take (i := 4) (oi := { dst := some 79, op := _, type := _, pos := _, after := _, guard := _ }) (v := ?_) rfl (by kernel_rfl) (by kernel_rfl) (by kernel_rfl) (fun _ _ _ h => h) (Or.inl ⟨by rfl, ?_⟩) (by assumption) ?_
    rotate_left
    · (intro w hSw; (try dsimp only at hSw); go_simp; (try with_reducible rfl))
    (try simp only [Act.put, List.setIfInBounds_toArray, List.set_cons_zero, List.set_cons_succ])
    refine wpAnyH_take (i := 5) (oi := { dst := some 80, op := _, type := _, pos := _, after := _, guard := _ }) (v := ?_) rfl (by kernel_rfl) (by kernel_rfl) (by kernel_rfl) (fun _ _ _ h => h) (Or.inl ⟨by rfl, ?_⟩) (by assumption) ?_
    rotate_left
    · (intro w hSw; (try dsimp only at hSw); go_simp; (try with_reducible rfl))
    (try simp only [Act.put, List.setIfInBounds_toArray, List.set_cons_zero, List.set_cons_succ])
    refine wpAnyH_take (i := 6) (oi := { dst := some 81, op := _, type := _, pos := _, after := _, guard := _ }) (v := ?_) rfl (by kernel_rfl) (by kernel_rfl) (by kernel_rfl) (fun _ _ _ h => h) (Or.inl ⟨by rfl, ?_⟩) (by assumption) ?_
    rotate_left
    · (intro w hSw; (try dsimp only at hSw); go_simp; (try with_reducible rfl))
    (try simp only [Act.put, List.setIfInBounds_toArray, List.set_cons_zero, List.set_cons_succ])
    refine wpAnyH_take (i := 7) (oi := { dst := some 82, op := _, type := _, pos := _, after := _, guard := _ }) (v := ?_) rfl (by kernel_rfl) (by kernel_rfl) (by kernel_rfl) (fun _ _ _ h => h) (Or.inl ⟨by rfl, ?_⟩) (by assumption) ?_
    rotate_left
    · (intro w hSw; (try dsimp only at hSw); go_simp; (try with_reducible rfl))
    (try simp only [Act.put, List.setIfInBounds_toArray, List.set_cons_zero, List.set_cons_succ])
    refine wpAnyH_take (i := 8) (oi := { dst := some 83, op := _, type := _, pos := _, after := _, guard := _ }) (v := ?_) rfl (by kernel_rfl) (by kernel_rfl) (by kernel_rfl) (fun _ _ _ h => h) (Or.inl ⟨by rfl, ?_⟩) (by assumption) ?_
    rotate_left
    · (intro w hSw; (try dsimp only at hSw); go_simp; (try with_reducible rfl))
    (try simp only [Act.put, List.setIfInBounds_toArray, List.set_cons_zero, List.set_cons_succ])
    refine wpAnyH_take (i := 9) (oi := { dst := some 84, op := _, type := _, pos := _, after := _, guard := _ }) (v := ?_) rfl (by kernel_rfl) (by kernel_rfl) (by kernel_rfl) (fun _ _ _ h => h) (Or.inl ⟨by rfl, ?_⟩) (by assumption) ?_
    rotate_left
    · (intro w hSw; (try dsimp only at hSw); go_simp; (try with_reducible rfl))
    (try simp only [Act.put, List.setIfInBounds_toArray, List.set_cons_zero, List.set_cons_succ])
    refine wpAnyH_take (i := 10) (oi := { dst := some 85, op := _, type := _, pos := _, after := _, guard := _ }) (v := ?_) rfl (by kernel_rfl) (by kernel_rfl) (by kernel_rfl) (fun _ _ _ h => h) (Or.inl ⟨by rfl, ?_⟩) (by assumption) ?_
    rotate_left
    · (intro w hSw; (try dsimp only at hSw); go_simp; (try with_reducible rfl))
    (try simp only [Act.put, List.setIfInBounds_toArray, List.set_cons_zero, List.set_cons_succ])
    refine wpAnyH_take (i := 11) (oi := { dst := some 86, op := _, type := _, pos := _, after := _, guard := _ }) (v := ?_) rfl (by kernel_rfl) (by kernel_rfl) (by kernel_rfl) (fun _ _ _ h => h) (Or.inl ⟨by rfl, ?_⟩) (by assumption) ?_
    rotate_left
    · (intro w hSw; (try dsimp only at hSw); go_simp; (try with_reducible rfl))
    (try simp only [Act.put, List.setIfInBounds_toArray, List.set_cons_zero, List.set_cons_succ])
    refine wpAnyH_take (i := 12) (oi := { dst := some 87, op := _, type := _, pos := _, after := _, guard := _ }) (v := ?_) rfl (by kernel_rfl) (by kernel_rfl) (by kernel_rfl) (fun _ _ _ h => h) (Or.inl ⟨by rfl, ?_⟩) (by assumption) ?_
    rotate_left
    · (intro w hSw; (try dsimp only at hSw); go_simp; (try with_reducible rfl))
    (try simp only [Act.put, List.setIfInBounds_toArray, List.set_cons_zero, List.set_cons_succ])
    refine wpAnyH_take (i := 13) (oi := { dst := some 88, op := _, type := _, pos := _, after := _, guard := _ }) (v := ?_) rfl (by kernel_rfl) (by kernel_rfl) (by kernel_rfl) (fun _ _ _ h => h) (Or.inl ⟨by rfl, ?_⟩) (by assumption) ?_
    rotate_left
    · (intro w hSw; (try dsimp only at hSw); go_simp; (try with_reducible rfl))
    (try simp only [Act.put, List.setIfInBounds_toArray, List.set_cons_zero, List.set_cons_succ])
    refine wpAnyH_take (i := 14) (oi := { dst := some 89, op := _, type := _, pos := _, after := _, guard := _ }) (v := ?_) rfl (by kernel_rfl) (by kernel_rfl) (by kernel_rfl) (fun _ _ _ h => h) (Or.inl ⟨by rfl, ?_⟩) (by assumption) ?_
    rotate_left
    · (intro w hSw; (try dsimp only at hSw); go_simp; (try with_reducible rfl))
    (try simp only [Act.put, List.setIfInBounds_toArray, List.set_cons_zero, List.set_cons_succ])
    refine wpAnyH_take (i := 15) (oi := { dst := some 90, op := _, type := _, pos := _, after := _, guard := _ }) (v := ?_) rfl (by kernel_rfl) (by kernel_rfl) (by kernel_rfl) (fun _ _ _ h => h) (Or.inl ⟨by rfl, ?_⟩) (by assumption) ?_
    rotate_left
    · (intro w hSw; (try dsimp only at hSw); go_simp; (try with_reducible rfl))
    (try simp only [Act.put, List.setIfInBounds_toArray, List.set_cons_zero, List.set_cons_succ])
    refine wpAnyH_take (i := 16) (oi := { dst := some 91, op := _, type := _, pos := _, after := _, guard := _ }) (v := ?_) rfl (by kernel_rfl) (by kernel_rfl) (by kernel_rfl) (fun _ _ _ h => h) (Or.inl ⟨by rfl, ?_⟩) (by assumption) ?_
    rotate_left
    · (intro w hSw; (try dsimp only at hSw); go_simp; (try with_reducible rfl))
    (try simp only [Act.put, List.setIfInBounds_toArray, List.set_cons_zero, List.set_cons_succ])
    refine wpAnyH_ready (rs := [17]) (by kernel_rfl) (by simp) ?_
    refine AllReadyH.cons (o := { dst := none, op := _, type := _, pos := _, after := _, guard := _ }) rfl (fun K hK => ?_) AllReadyH.nil
    refine step_storeB rfl 32 (.tmp 2) (.tmp 77) rfl rfl (b + 1) _ rfl rfl 32 _ hB2 infoTm rfl (by simp [Value.oneCell']) ?_; intro w5 hN5 hX5
    refine hK.out _ _ ?_ (fun hHeld => ?_)
    · (try dsimp only); (try trivial)
    clear hK K
    (try simp only [Act.put, List.setIfInBounds_toArray, List.set_cons_zero, List.set_cons_succ])
    refine wpAnyH_take (i := 18) (oi := { dst := some 3, op := _, type := _, pos := _, after := _, guard := _ }) (v := ?_) rfl (by kernel_rfl) (by kernel_rfl) (by kernel_rfl) (fun _ _ _ h => h) (Or.inl ⟨by rfl, ?_⟩) (by assumption) ?_
    rotate_left
    · (intro w hSw; (try dsimp only at hSw); go_simp; (try with_reducible rfl))
    (try simp only [Act.put, List.setIfInBounds_toArray, List.set_cons_zero, List.set_cons_succ])
    refine wpAnyH_take (i := 19) (oi := { dst := some 4, op := _, type := _, pos := _, after := _, guard := _ }) (v := ?_) rfl (by kernel_rfl) (by kernel_rfl) (by kernel_rfl) (fun _ _ _ h => h) (Or.inl ⟨by rfl, ?_⟩) (by assumption) ?_
    rotate_left
    · (intro w hSw; (try dsimp only at hSw); go_simp; (try with_reducible rfl))
    (try simp only [Act.put, List.setIfInBounds_toArray, List.set_cons_zero, List.set_cons_succ])
    refine wpAnyH_take (i := 20) (oi := { dst := some 5, op := _, type := _, pos := _, after := _, guard := _ }) (v := ?_) rfl (by kernel_rfl) (by kernel_rfl) (by kernel_rfl) (fun _ _ _ h => h) (Or.inl ⟨by rfl, ?_⟩) (by assumption) ?_
    rotate_left
    · (intro w hSw; (try dsimp only at hSw); go_simp; (try with_reducible rfl))
    (try simp only [Act.put, List.setIfInBounds_toArray, List.set_cons_zero, List.set_cons_succ])
    refine wpAnyH_done (by kernel_rfl) ?_ _
    have y0 := hN5.cell 0
    have y1 := hN5.cell 1
    have y2 := hN5.cell 2
    have hwr : IntKind.i64.wrap (5000 + x0 + x1 + x2 * (1 + x3) - (5000 + x0)) = 5000 + x0 + x1 + x2 * (1 + x3) - (5000 + x0) := IntWalk.i64_in _ (by omega)
    have HF := Lib.hid ((HE.out.trans (HZ4.out.drew)).growB hX5 (by omega))
    clear hX5 hB2
    go_wp2_with fail
    exact bodyPost_ret (v := .tuple #[.agg #[.int .i64 ra, .int .i64 rb, .int .i64 (-1)], .int .i64 rc, .int .i64 (5000 + x0 + x1 + x2 * (1 + x3) - (5000 + x0)), .bool true]) (by simp [results, Tryd.results29, go_sem, y0, y1, y2, hwr]) rfl ⟨ra, rb, rc, _, rfl, HF.out, Hfin.out⟩

set_option maxHeartbeats 16000000 in
set_option maxRecDepth 100000 in
theorem truth_walk (A : Option Addr) (n c : Nat) (fs : List Fd) (q : D) (x0 x1 x2 x3 x4 x6 : Int) (x5 : Bool) (a0 : 0 ≤ x0) (a1 : x0 ≤ 65535) (b0 : 0 ≤ x1) (b1 : x1 ≤ 65535) (c0 : 0 ≤ x2) (c1 : x2 ≤ 65535) (d0 : 0 ≤ x3) (d1 : x3 ≤ 255) (e0 : 0 ≤ x4) (e1 : x4 ≤ 255) (w : World) (hf : RdF w A n fs) (hbk : fs.length + sumF fs ≤ 1048576) (hg : GlH w) (hgl : Gl w) :
    Calls Tryd.prog 8 #[.slice A n c, .agg (dArr q), .agg #[.int .u16 x0, .int .u16 x1, .int .u16 x2, .int .u8 x3, .int .u8 x4, .bool x5, .int .i64 x6]] w fun e w' => e = .returned (.bool true) ∧ Ext w w' := by
  have HMo := Lib.hid (fun w => law17_moments x0 x1 x2 x3 x4 x6 x5 w a0 a1 b0 b1 c0 c1 d0 d1 e0 e1)
  have HBq := Lib.hid ((Blk.new w 61 (dArr q)).alloc (.cells #[.int .u16 x0, .int .u16 x1, .int .u16 x2, .int .u8 x3, .int .u8 x4, .bool x5, .int .i64 x6] 77))
  have HBl := Lib.hid (show Blk ((w.alloc (.cells (dArr q) 61)).alloc (.cells #[.int .u16 x0, .int .u16 x1, .int .u16 x2, .int .u8 x3, .int .u8 x4, .bool x5, .int .i64 x6] 77)) (w.heap.size + 1) 77 #[.int .u16 x0, .int .u16 x1, .int .u16 x2, .int .u8 x3, .int .u8 x4, .bool x5, .int .i64 x6] by
    have h := Blk.new (w.alloc (.cells (dArr q) 61)) 77 #[.int .u16 x0, .int .u16 x1, .int .u16 x2, .int .u8 x3, .int .u8 x4, .bool x5, .int .i64 x6]
    rw [World.size_alloc] at h; exact h)
  have HE := Lib.hid (((Ext.refl w).alloc (.cells (dArr q) 61)).alloc (.cells #[.int .u16 x0, .int .u16 x1, .int .u16 x2, .int .u8 x3, .int .u8 x4, .bool x5, .int .i64 x6] 77))
  go_enter Tryd.func8, Tryd.ntmps8
  go_wp2_with fail
  generalize (w.alloc (.cells (dArr q) 61)).alloc (.cells #[.int .u16 x0, .int .u16 x1, .int .u16 x2, .int .u8 x3, .int .u8 x4, .bool x5, .int .i64 x6] 77) = W0 at *
  generalize hbq : w.heap.size = b at *
  refine (law17_large A n c fs _ (hf.ext HE.out) hbk).mono ?_; rintro e w1 ⟨rfl, hb1⟩
  cases hlg : lg17 fs
  rotate_left
  · go_wp2_with fail
    refine (law17_large A n c fs _ (hf.ext (HE.out.trans hb1)) hbk).mono ?_; rintro e w2 ⟨rfl, hb2⟩
    rw [hlg]
    go_wp2_with fail
    go_ret
    exact ⟨rfl, HE.out.trans (hb1.trans hb2)⟩
  have Hs := Lib.hid (lg_no17 hlg)
  have Hbs := Lib.hid ((bsz_of_sumF fs).mono (show sumF fs ≤ 1048576 by omega))
  have hn : n ≤ 3000 := by have := hf.lenF; have := Hs.out; omega
  have Hm := Lib.hid hn
  clear hlg hbk hn
  go_wp2_with fail
  refine (law17_awake _ (hg.ext (HE.out.trans hb1)) (hgl.ext (HE.out.trans hb1))).mono ?_; rintro e w2 ⟨rfl, hb2⟩
  have HW2 := Lib.hid (hb1.trans hb2)
  clear hb1 hb2
  have l0 := (HBl.out.ext HW2.out).cell 0
  have l1 := (HBl.out.ext HW2.out).cell 1
  have l2 := (HBl.out.ext HW2.out).cell 2
  have l3 := (HBl.out.ext HW2.out).cell 3
  have l4 := (HBl.out.ext HW2.out).cell 4
  have l5 := (HBl.out.ext HW2.out).cell 5
  have l6 := (HBl.out.ext HW2.out).cell 6
  go_wp2_with fail
  refine (HMo.out _).mono ?_; rintro e w3 ⟨ra, rb, rc, old, rfl, hb3, hold⟩
  have HOld := Lib.hid hold
  have hb4 := HW2.out.trans hb3
  have HE4 := Lib.hid (hb4.alloc (.cells #[.int .i64 ra, .int .i64 rb, .int .i64 (-1)] 32))
  have HB4 := Lib.hid (Blk.new w3 32 #[.int .i64 ra, .int .i64 rb, .int .i64 (-1)])
  clear l0 l1 l2 l3 l4 l5 l6 hb3 hb4 hold HMo HW2
  go_wp2_with fail
  generalize w3.alloc (.cells #[.int .i64 ra, .int .i64 rb, .int .i64 (-1)] 32) = w4 at *
  generalize w3.heap.size = gt at *
  have hE := (Ext.refl w4).drew
  have hlt4 := HB4.out.lt
  refine wp_region_held_drew (S := (fun w' => Blk w' gt 32 #[.int .i64 ra, .int .i64 rb, .int .i64 (-1)])) (by kernel_rfl) ?_ (fun hHeld => ?_)
  · (try dsimp only); exact HB4.out.ext hE
  refine wpAnyH_take (i := 0) (oi := { dst := some 33, op := _, type := _, pos := _, after := _, guard := _ }) (v := ?_) rfl (by kernel_rfl) (by kernel_rfl) (by kernel_rfl) (fun _ _ _ h => h) (Or.inl ⟨by rfl, ?_⟩) (by assumption) ?_
  rotate_left
  · (intro w hSw; (try dsimp only at hSw); go_simp; (try with_reducible rfl))
  (try simp only [Act.put, List.setIfInBounds_toArray, List.set_cons_zero, List.set_cons_succ])
  refine wpAnyH_take (i := 2) (oi := { dst := some 35, op := _, type := _, pos := _, after := _, guard := _ }) (v := .agg #[.int .i64 ra, .int .i64 rb, .int .i64 (-1)]) rfl (by kernel_rfl) (by kernel_rfl) (by kernel_rfl) (fun _ _ _ h => h) (yield_loadB rfl 32 (.tmp 7) rfl gt rfl 32 _ (fun w h => h) _ Tryd.underlying32 infoTm) (by assumption) ?_
  (try simp only [Act.put, List.setIfInBounds_toArray, List.set_cons_zero, List.set_cons_succ])
  refine wpAnyH_ready (rs := [1, 4]) (by kernel_rfl) (by simp) ?_
  refine AllReadyH.cons (o := { dst := some 34, op := _, type := _, pos := _, after := _, guard := _ }) rfl (fun K hK => ?_) (AllReadyH.cons (o := { dst := some 11, op := _, type := _, pos := _, after := _, guard := _ }) rfl (fun K hK => ?_) AllReadyH.nil)
  · go_simp
    refine (law_Fields A n c fs _ (hf.ext ((HE.out.trans HE4.out).trans hE)) (by have := Hm.out; omega)).mono ?_; rintro e w5 ⟨A2, c2, rfl, hx5, hc5, hb5, hown5⟩; have hfa := own_far hown5; replace hE := hE.trans hb5; have hEa := hE; have hx5a := hx5
    try go_wp2_with fail
    refine hK.out _ _ ?_ (fun hHeld => ?_)
    · (try dsimp only); exact HB4.out.ext hE
    clear hK K
    (try simp only [Act.put, List.setIfInBounds_toArray, List.set_cons_zero, List.set_cons_succ])
    refine wpAnyH_take (i := 3) (oi := { dst := some 36, op := _, type := _, pos := _, after := _, guard := _ }) (v := ?_) rfl (by kernel_rfl) (by kernel_rfl) (by kernel_rfl) (fun _ _ _ h => h) (Or.inl ⟨by rfl, ?_⟩) (by assumption) ?_
    rotate_left
    · (intro w hSw; (try dsimp only at hSw); go_simp; (try with_reducible rfl))
    (try simp only [Act.put, List.setIfInBounds_toArray, List.set_cons_zero, List.set_cons_succ])
    refine wpAnyH_ready (rs := [4]) (by kernel_rfl) (by simp) ?_
    refine AllReadyH.cons (o := { dst := some 11, op := _, type := _, pos := _, after := _, guard := _ }) rfl (fun K hK => ?_) AllReadyH.nil
    go_simp
    have hBa := blk_of_ext hE 34 #[.int .i64 0, .slice none 0 0, .int .i64 0, .int .i64 0, .int .i64 0, .bool false]; replace hE := hE.alloc (.cells #[.int .i64 0, .slice none 0 0, .int .i64 0, .int .i64 0, .int .i64 0, .bool false] 34); replace hx5 := hx5.alloc (.cells #[.int .i64 0, .slice none 0 0, .int .i64 0, .int .i64 0, .int .i64 0, .bool false] 34)
    try go_wp2_with fail
    refine hK.out _ _ ?_ (fun hHeld => ?_)
    · (try dsimp only); exact HB4.out.ext hE
    clear hK K
    (try simp only [Act.put, List.setIfInBounds_toArray, List.set_cons_zero, List.set_cons_succ])
    refine wpAnyH_ready (rs := [5]) (by kernel_rfl) (by simp) ?_
    refine AllReadyH.cons (o := { dst := none, op := _, type := _, pos := _, after := _, guard := _ }) rfl (fun K hK => ?_) AllReadyH.nil
    refine step_storeB rfl 34 (.tmp 11) (.tmp 36) rfl rfl _ _ rfl rfl 34 _ hBa infoSt rfl (by simp [Value.oneCell']) ?_; intro w6 hN6 hX6
    refine hK.out _ _ ?_ (fun hHeld => ?_)
    · (try dsimp only); exact HB4.out.ext (hE.growB hX6 (by first | exact hEa.size | exact Nat.le_refl _))
    clear hK K
    (try simp only [Act.put, List.setIfInBounds_toArray, List.set_cons_zero, List.set_cons_succ])
    refine wpAnyH_done (by kernel_rfl) ?_ _
    have hlt6 : w4.heap.size ≤ w5.heap.size := by have := hEa.size; omega
    have hxx := Rd.growZ hx5 hX6 (fun h0 a ha => by have := Rd.lowF hx5a h0 a ha; omega)
    replace hE := hE.growB hX6 hlt6
    have HA := Lib.hid hN6; have HX := Lib.hid hxx; have HE6 := Lib.hid (HE4.out.trans hE)
    clear hN6 hxx hX6 hx5 hE hBa hfa hown5 hlt6 hEa hx5a
    generalize w5.heap.size = ga at *
    go_wp2_with fail
    have HZ := Lib.hid (HE.out.trans HE6.out)
    have HQ := Lib.hid (HBq.out.ext HE6.out); have HL := Lib.hid (HBl.out.ext HE6.out)
    have HJ := Lib.hid (@jdS_limit ⟨200, fs, ⟨ra, rb, -1⟩, true⟩ q rc x6 old HOld.out)
    clear HBq HBl HE4 HB4 HE6 HOld
    have hE := (Ext.refl w6).drew
    refine wp_region_held_drew (S := (fun w' => Blk w' ga 34 #[.int .i64 200, .slice A2 n c2, .int .i64 ra, .int .i64 rb, .int .i64 (-1), .bool true] ∧ Blk w' b 61 (dArr q) ∧ w'.cell? ⟨b + 1, 6, none⟩ = some (.int .i64 x6))) (by kernel_rfl) ?_ (fun hHeld => ?_)
    · (try dsimp only); exact ⟨HA.out.ext hE, HQ.out.ext hE, (HL.out.ext hE).cell 6⟩
    refine wpAnyH_take (i := 0) (oi := { dst := some 37, op := _, type := _, pos := _, after := _, guard := _ }) (v := .agg #[.int .i64 200, .slice A2 n c2, .int .i64 ra, .int .i64 rb, .int .i64 (-1), .bool true]) rfl (by kernel_rfl) (by kernel_rfl) (by kernel_rfl) (fun _ _ _ h => h) (yield_loadB rfl 34 (.tmp 11) rfl ga rfl 34 _ (fun w h => h.1) _ Tryd.underlying34 infoSt) (by assumption) ?_
    (try simp only [Act.put, List.setIfInBounds_toArray, List.set_cons_zero, List.set_cons_succ])
    refine wpAnyH_take (i := 1) (oi := { dst := some 38, op := _, type := _, pos := _, after := _, guard := _ }) (v := .agg (dArr q)) rfl (by kernel_rfl) (by kernel_rfl) (by kernel_rfl) (fun _ _ _ h => h) (yield_loadB rfl 61 (.tmp 4) rfl b rfl 61 _ (fun w h => h.2.1) _ Tryd.underlying61 infoD) (by assumption) ?_
    (try simp only [Act.put, List.setIfInBounds_toArray, List.set_cons_zero, List.set_cons_succ])
    refine wpAnyH_take (i := 3) (oi := { dst := some 40, op := _, type := _, pos := _, after := _, guard := _ }) (v := ?_) rfl (by kernel_rfl) (by kernel_rfl) (by kernel_rfl) (fun _ _ _ h => h) (Or.inl ⟨by rfl, ?_⟩) (by assumption) ?_
    rotate_left
    · (intro w hSw; (try dsimp only at hSw); go_simp; (try with_reducible rfl))
    (try simp only [Act.put, List.setIfInBounds_toArray, List.set_cons_zero, List.set_cons_succ])
    refine wpAnyH_take (i := 4) (oi := { dst := some 41, op := _, type := _, pos := _, after := _, guard := _ }) (v := ?_) rfl (by kernel_rfl) (by kernel_rfl) (by kernel_rfl) (fun _ _ _ h => h) (Or.inl ⟨by rfl, ?_⟩) (by assumption) ?_
    rotate_left
    · (intro w hSw; (try dsimp only at hSw); go_simp; (try with_reducible rfl))
    (try simp only [Act.put, List.setIfInBounds_toArray, List.set_cons_zero, List.set_cons_succ])
    refine wpAnyH_take (i := 5) (oi := { dst := some 42, op := _, type := _, pos := _, after := _, guard := _ }) (v := ?_) rfl (by kernel_rfl) (by kernel_rfl) (by kernel_rfl) (fun _ _ _ h => h) (Or.inl ⟨by rfl, ?_⟩) (by assumption) ?_
    rotate_left
    · (intro w hSw; (try dsimp only at hSw); go_simp; (try with_reducible rfl))
    (try simp only [Act.put, List.setIfInBounds_toArray, List.set_cons_zero, List.set_cons_succ])
    refine wpAnyH_ready (rs := [2]) (by kernel_rfl) (by simp) ?_
    refine AllReadyH.cons (o := { dst := some 39, op := _, type := _, pos := _, after := _, guard := _ }) rfl (fun K hK => ?_) AllReadyH.nil
    go_simp
    refine (law_Program q _).mono ?_; rintro e w1 ⟨rfl, hb1⟩; replace hE := hE.trans hb1; clear hb1
    try go_wp2_with fail
    refine hK.out _ _ ?_ (fun hHeld => ?_)
    · (try dsimp only); exact ⟨HA.out.ext hE, HQ.out.ext hE, (HL.out.ext hE).cell 6⟩
    clear hK K
    (try simp only [Act.put, List.setIfInBounds_toArray, List.set_cons_zero, List.set_cons_succ])
    refine wpAnyH_ready (rs := [6]) (by kernel_rfl) (by simp) ?_
    refine AllReadyH.cons (o := { dst := some 43, op := _, type := _, pos := _, after := _, guard := _ }) rfl (fun K hK => ?_) AllReadyH.nil
    go_simp
    refine (policy_Judge 200 A2 n c2 fs ra rb (-1) true q rc x6 _ (HX.out.ext hE) (by have := Hm.out; omega) Hbs.out (hg.ext (HZ.out.trans hE)) (by have := Hs.out; have := Hm.out; omega) (hgl.ext (HZ.out.trans hE))).mono ?_; rintro e w1 ⟨rfl, hb1⟩; replace hE := hE.trans hb1; clear hb1
    try go_wp2_with fail
    refine hK.out _ _ ?_ (fun hHeld => ?_)
    · (try dsimp only); exact ⟨HA.out.ext hE, HQ.out.ext hE, (HL.out.ext hE).cell 6⟩
    clear hK K
    (try simp only [Act.put, List.setIfInBounds_toArray, List.set_cons_zero, List.set_cons_succ])
    refine wpAnyH_take (i := 7) (oi := { dst := some 12, op := _, type := _, pos := _, after := _, guard := _ }) (v := ?_) rfl (by kernel_rfl) (by kernel_rfl) (by kernel_rfl) (fun _ _ _ h => h) (Or.inl ⟨by rfl, ?_⟩) (by assumption) ?_
    rotate_left
    · (intro w hSw; (try dsimp only at hSw); go_simp; (try with_reducible rfl))
    (try simp only [Act.put, List.setIfInBounds_toArray, List.set_cons_zero, List.set_cons_succ])
    refine wpAnyH_done (by kernel_rfl) ?_ _
    have HE7 := Lib.hid hE
    have HA7 := Lib.hid (HA.out.ext hE)
    clear hE
    go_wp2_with (first
      | (refine wpList_loadB rfl 34 (.tmp 11) rfl ga rfl 34 _ HA7.out _ Tryd.underlying34 infoSt ?_))
    refine (policy_Limit 200 A2 n c2 fs ra rb (-1) true _ (HX.out.ext HE7.out) (by have := Hm.out; omega) Hbs.out (hg.ext (HZ.out.trans HE7.out)) (by have := Hs.out; have := Hm.out; omega) (hgl.ext (HZ.out.trans HE7.out))).mono ?_; rintro e w8 ⟨rfl, hb8⟩
    have HE8 := Lib.hid (HE7.out.trans hb8)
    have HA8 := Lib.hid (HA.out.ext HE8.out)
    have a1 := HA8.out.cell 1
    go_wp2_with fail
    refine (life_Of 200 A2 n c2 fs _ (HX.out.ext HE8.out) (by have := Hm.out; omega) Hbs.out (hg.ext (HZ.out.trans HE8.out)) (by have := Hs.out; have := Hm.out; omega) (hgl.ext (HZ.out.trans HE8.out))).mono ?_; rintro e w9 ⟨rfl, hb9⟩
    have HE9 := Lib.hid (HE8.out.trans hb9)
    have HA9 := Lib.hid (HA.out.ext HE9.out)
    have l6 := (HL.out.ext HE9.out).cell 6
    clear a1 hb8 hb9
    obtain ⟨j1, j2, j3⟩ := HJ.out
    have HOE := Lib.hid (fun w' h1 h2 h3 h4 h5 h6 => policy_OnError 200 A2 n c2 fs ra rb (-1) true rc x6 w' h1 h2 h3 h4 h5 h6)
    rw [show pairV (ofS 200 fs) = .tuple #[.int .i64 (lifeS ⟨200, fs, ⟨ra, rb, -1⟩, true⟩), .int .i64 (ofS 200 fs).2] from rfl]
    generalize (ofS 200 fs).2 = kd at *
    generalize lifeS ⟨200, fs, ⟨ra, rb, -1⟩, true⟩ = life at *
    generalize lmS ⟨200, fs, ⟨ra, rb, -1⟩, true⟩ = lim at *
    generalize jdS ⟨200, fs, ⟨ra, rb, -1⟩, true⟩ q rc x6 = J at *
    generalize oeS ⟨200, fs, ⟨ra, rb, -1⟩, true⟩ rc x6 = oe at *
    have HJJ := Lib.hid (⟨j1, j2, j3⟩ : _ ∧ _ ∧ _)
    clear j1 j2 j3 HJ
    by_cases h1 : J = 1
    · have m0 := l6
      have z1 : (J == 1) = true := by rw [beq_iff_eq]; exact h1
      have z2 : (J == 2) = false := by rw [beq_eq_false_iff_ne]; omega
      have y1 : old < life := HJJ.out.1 h1
      have y1b : ¬ life ≤ old := by omega
      have HJ3 := Lib.hid HJJ.out.2.2
      clear HJJ
      clear h1
      go_wp2_with (first
        | (refine wpList_loadB rfl 34 (.tmp 11) rfl ga rfl 34 _ HA9.out _ Tryd.underlying34 infoSt ?_))
      refine (HOE.out _ (HX.out.ext HE9.out) (by have := Hm.out; omega) Hbs.out (hg.ext (HZ.out.trans HE9.out)) (by have := Hs.out; have := Hm.out; omega) (hgl.ext (HZ.out.trans HE9.out))).mono ?_; rintro e wA ⟨rfl, hbA⟩
      cases oe
      · go_wp2_with fail
        go_ret
        exact ⟨rfl, HZ.out.trans (HE9.out.trans hbA)⟩
      · have y3 : old < lim := HJ3.out rfl
        go_wp2_with fail
        go_ret
        exact ⟨rfl, HZ.out.trans (HE9.out.trans hbA)⟩
    · by_cases h2 : J = 2
      · have m0 := l6
        have z1 : (J == 1) = false := by rw [beq_eq_false_iff_ne]; exact h1
        have z2 : (J == 2) = true := by rw [beq_iff_eq]; exact h2
        have y2 : old < lim := HJJ.out.2.1 h2
        have y2b : ¬ lim ≤ old := by omega
        have HJ3 := Lib.hid HJJ.out.2.2
        clear HJJ
        clear h1 h2
        go_wp2_with (first
          | (refine wpList_loadB rfl 34 (.tmp 11) rfl ga rfl 34 _ HA9.out _ Tryd.underlying34 infoSt ?_))
        refine (HOE.out _ (HX.out.ext HE9.out) (by have := Hm.out; omega) Hbs.out (hg.ext (HZ.out.trans HE9.out)) (by have := Hs.out; have := Hm.out; omega) (hgl.ext (HZ.out.trans HE9.out))).mono ?_; rintro e wA ⟨rfl, hbA⟩
        cases oe
        · go_wp2_with fail
          go_ret
          exact ⟨rfl, HZ.out.trans (HE9.out.trans hbA)⟩
        · have y3 : old < lim := HJ3.out rfl
          go_wp2_with fail
          go_ret
          exact ⟨rfl, HZ.out.trans (HE9.out.trans hbA)⟩
      · have m0 := l6
        have z1 : (J == 1) = false := by rw [beq_eq_false_iff_ne]; exact h1
        have z2 : (J == 2) = false := by rw [beq_eq_false_iff_ne]; exact h2
        have HJ3 := Lib.hid HJJ.out.2.2
        clear HJJ
        clear h1 h2
        go_wp2_with (first
          | (refine wpList_loadB rfl 34 (.tmp 11) rfl ga rfl 34 _ HA9.out _ Tryd.underlying34 infoSt ?_))
        refine (HOE.out _ (HX.out.ext HE9.out) (by have := Hm.out; omega) Hbs.out (hg.ext (HZ.out.trans HE9.out)) (by have := Hs.out; have := Hm.out; omega) (hgl.ext (HZ.out.trans HE9.out))).mono ?_; rintro e wA ⟨rfl, hbA⟩
        cases oe
        · go_wp2_with fail
          go_ret
          exact ⟨rfl, HZ.out.trans (HE9.out.trans hbA)⟩
        · have y3 : old < lim := HJ3.out rfl
          go_wp2_with fail
          go_ret
          exact ⟨rfl, HZ.out.trans (HE9.out.trans hbA)⟩
  · go_simp
    have hBa := blk_of_ext hE 34 #[.int .i64 0, .slice none 0 0, .int .i64 0, .int .i64 0, .int .i64 0, .bool false]; replace hE := hE.alloc (.cells #[.int .i64 0, .slice none 0 0, .int .i64 0, .int .i64 0, .int .i64 0, .bool false] 34)
    try go_wp2_with fail
    refine hK.out _ _ ?_ (fun hHeld => ?_)
    · (try dsimp only); exact HB4.out.ext hE
    clear hK K
    (try simp only [Act.put, List.setIfInBounds_toArray, List.set_cons_zero, List.set_cons_succ])
    refine wpAnyH_ready (rs := [1]) (by kernel_rfl) (by simp) ?_
    refine AllReadyH.cons (o := { dst := some 34, op := _, type := _, pos := _, after := _, guard := _ }) rfl (fun K hK => ?_) AllReadyH.nil
    go_simp
    refine (law_Fields A n c fs _ (hf.ext ((HE.out.trans HE4.out).trans hE)) (by have := Hm.out; omega)).mono ?_; rintro e w5 ⟨A2, c2, rfl, hx5, hc5, hb5, hown5⟩; have hfa := own_far hown5; replace hE := hE.trans hb5; have hEa := hE; have hx5a := hx5; replace hBa := hBa.ext hb5
    try go_wp2_with fail
    refine hK.out _ _ ?_ (fun hHeld => ?_)
    · (try dsimp only); exact HB4.out.ext hE
    clear hK K
    (try simp only [Act.put, List.setIfInBounds_toArray, List.set_cons_zero, List.set_cons_succ])
    refine wpAnyH_take (i := 3) (oi := { dst := some 36, op := _, type := _, pos := _, after := _, guard := _ }) (v := ?_) rfl (by kernel_rfl) (by kernel_rfl) (by kernel_rfl) (fun _ _ _ h => h) (Or.inl ⟨by rfl, ?_⟩) (by assumption) ?_
    rotate_left
    · (intro w hSw; (try dsimp only at hSw); go_simp; (try with_reducible rfl))
    (try simp only [Act.put, List.setIfInBounds_toArray, List.set_cons_zero, List.set_cons_succ])
    refine wpAnyH_ready (rs := [5]) (by kernel_rfl) (by simp) ?_
    refine AllReadyH.cons (o := { dst := none, op := _, type := _, pos := _, after := _, guard := _ }) rfl (fun K hK => ?_) AllReadyH.nil
    refine step_storeB rfl 34 (.tmp 11) (.tmp 36) rfl rfl _ _ rfl rfl 34 _ hBa infoSt rfl (by simp [Value.oneCell']) ?_; intro w6 hN6 hX6
    refine hK.out _ _ ?_ (fun hHeld => ?_)
    · (try dsimp only); exact HB4.out.ext (hE.growB hX6 (by first | exact hEa.size | exact Nat.le_refl _))
    clear hK K
    (try simp only [Act.put, List.setIfInBounds_toArray, List.set_cons_zero, List.set_cons_succ])
    refine wpAnyH_done (by kernel_rfl) ?_ _
    have hlt6 : w4.heap.size ≤ w4.heap.size := Nat.le_refl _
    have hxx := Rd.growZ hx5 hX6 (fun _ a ha => by have h1 := hfa a ha; have h2 : (w4.drew.alloc (.cells #[.int .i64 0, .slice none 0 0, .int .i64 0, .int .i64 0, .int .i64 0, .bool false] 34)).heap.size = w4.heap.size + 1 := World.size_alloc ..; omega)
    replace hE := hE.growB hX6 hlt6
    have HA := Lib.hid hN6; have HX := Lib.hid hxx; have HE6 := Lib.hid (HE4.out.trans hE)
    clear hN6 hxx hX6 hx5 hE hBa hfa hown5 hlt6 hEa hx5a
    generalize w4.heap.size = ga at *
    go_wp2_with fail
    have HZ := Lib.hid (HE.out.trans HE6.out)
    have HQ := Lib.hid (HBq.out.ext HE6.out); have HL := Lib.hid (HBl.out.ext HE6.out)
    have HJ := Lib.hid (@jdS_limit ⟨200, fs, ⟨ra, rb, -1⟩, true⟩ q rc x6 old HOld.out)
    clear HBq HBl HE4 HB4 HE6 HOld
    have hE := (Ext.refl w6).drew
    refine wp_region_held_drew (S := (fun w' => Blk w' ga 34 #[.int .i64 200, .slice A2 n c2, .int .i64 ra, .int .i64 rb, .int .i64 (-1), .bool true] ∧ Blk w' b 61 (dArr q) ∧ w'.cell? ⟨b + 1, 6, none⟩ = some (.int .i64 x6))) (by kernel_rfl) ?_ (fun hHeld => ?_)
    · (try dsimp only); exact ⟨HA.out.ext hE, HQ.out.ext hE, (HL.out.ext hE).cell 6⟩
    refine wpAnyH_take (i := 0) (oi := { dst := some 37, op := _, type := _, pos := _, after := _, guard := _ }) (v := .agg #[.int .i64 200, .slice A2 n c2, .int .i64 ra, .int .i64 rb, .int .i64 (-1), .bool true]) rfl (by kernel_rfl) (by kernel_rfl) (by kernel_rfl) (fun _ _ _ h => h) (yield_loadB rfl 34 (.tmp 11) rfl ga rfl 34 _ (fun w h => h.1) _ Tryd.underlying34 infoSt) (by assumption) ?_
    (try simp only [Act.put, List.setIfInBounds_toArray, List.set_cons_zero, List.set_cons_succ])
    refine wpAnyH_take (i := 1) (oi := { dst := some 38, op := _, type := _, pos := _, after := _, guard := _ }) (v := .agg (dArr q)) rfl (by kernel_rfl) (by kernel_rfl) (by kernel_rfl) (fun _ _ _ h => h) (yield_loadB rfl 61 (.tmp 4) rfl b rfl 61 _ (fun w h => h.2.1) _ Tryd.underlying61 infoD) (by assumption) ?_
    (try simp only [Act.put, List.setIfInBounds_toArray, List.set_cons_zero, List.set_cons_succ])
    refine wpAnyH_take (i := 3) (oi := { dst := some 40, op := _, type := _, pos := _, after := _, guard := _ }) (v := ?_) rfl (by kernel_rfl) (by kernel_rfl) (by kernel_rfl) (fun _ _ _ h => h) (Or.inl ⟨by rfl, ?_⟩) (by assumption) ?_
    rotate_left
    · (intro w hSw; (try dsimp only at hSw); go_simp; (try with_reducible rfl))
    (try simp only [Act.put, List.setIfInBounds_toArray, List.set_cons_zero, List.set_cons_succ])
    refine wpAnyH_take (i := 4) (oi := { dst := some 41, op := _, type := _, pos := _, after := _, guard := _ }) (v := ?_) rfl (by kernel_rfl) (by kernel_rfl) (by kernel_rfl) (fun _ _ _ h => h) (Or.inl ⟨by rfl, ?_⟩) (by assumption) ?_
    rotate_left
    · (intro w hSw; (try dsimp only at hSw); go_simp; (try with_reducible rfl))
    (try simp only [Act.put, List.setIfInBounds_toArray, List.set_cons_zero, List.set_cons_succ])
    refine wpAnyH_take (i := 5) (oi := { dst := some 42, op := _, type := _, pos := _, after := _, guard := _ }) (v := ?_) rfl (by kernel_rfl) (by kernel_rfl) (by kernel_rfl) (fun _ _ _ h => h) (Or.inl ⟨by rfl, ?_⟩) (by assumption) ?_
    rotate_left
    · (intro w hSw; (try dsimp only at hSw); go_simp; (try with_reducible rfl))
    (try simp only [Act.put, List.setIfInBounds_toArray, List.set_cons_zero, List.set_cons_succ])
    refine wpAnyH_ready (rs := [2]) (by kernel_rfl) (by simp) ?_
    refine AllReadyH.cons (o := { dst := some 39, op := _, type := _, pos := _, after := _, guard := _ }) rfl (fun K hK => ?_) AllReadyH.nil
    go_simp
    refine (law_Program q _).mono ?_; rintro e w1 ⟨rfl, hb1⟩; replace hE := hE.trans hb1; clear hb1
    try go_wp2_with fail
    refine hK.out _ _ ?_ (fun hHeld => ?_)
    · (try dsimp only); exact ⟨HA.out.ext hE, HQ.out.ext hE, (HL.out.ext hE).cell 6⟩
    clear hK K
    (try simp only [Act.put, List.setIfInBounds_toArray, List.set_cons_zero, List.set_cons_succ])
    refine wpAnyH_ready (rs := [6]) (by kernel_rfl) (by simp) ?_
    refine AllReadyH.cons (o := { dst := some 43, op := _, type := _, pos := _, after := _, guard := _ }) rfl (fun K hK => ?_) AllReadyH.nil
    go_simp
    refine (policy_Judge 200 A2 n c2 fs ra rb (-1) true q rc x6 _ (HX.out.ext hE) (by have := Hm.out; omega) Hbs.out (hg.ext (HZ.out.trans hE)) (by have := Hs.out; have := Hm.out; omega) (hgl.ext (HZ.out.trans hE))).mono ?_; rintro e w1 ⟨rfl, hb1⟩; replace hE := hE.trans hb1; clear hb1
    try go_wp2_with fail
    refine hK.out _ _ ?_ (fun hHeld => ?_)
    · (try dsimp only); exact ⟨HA.out.ext hE, HQ.out.ext hE, (HL.out.ext hE).cell 6⟩
    clear hK K
    (try simp only [Act.put, List.setIfInBounds_toArray, List.set_cons_zero, List.set_cons_succ])
    refine wpAnyH_take (i := 7) (oi := { dst := some 12, op := _, type := _, pos := _, after := _, guard := _ }) (v := ?_) rfl (by kernel_rfl) (by kernel_rfl) (by kernel_rfl) (fun _ _ _ h => h) (Or.inl ⟨by rfl, ?_⟩) (by assumption) ?_
    rotate_left
    · (intro w hSw; (try dsimp only at hSw); go_simp; (try with_reducible rfl))
    (try simp only [Act.put, List.setIfInBounds_toArray, List.set_cons_zero, List.set_cons_succ])
    refine wpAnyH_done (by kernel_rfl) ?_ _
    have HE7 := Lib.hid hE
    have HA7 := Lib.hid (HA.out.ext hE)
    clear hE
    go_wp2_with (first
      | (refine wpList_loadB rfl 34 (.tmp 11) rfl ga rfl 34 _ HA7.out _ Tryd.underlying34 infoSt ?_))
    refine (policy_Limit 200 A2 n c2 fs ra rb (-1) true _ (HX.out.ext HE7.out) (by have := Hm.out; omega) Hbs.out (hg.ext (HZ.out.trans HE7.out)) (by have := Hs.out; have := Hm.out; omega) (hgl.ext (HZ.out.trans HE7.out))).mono ?_; rintro e w8 ⟨rfl, hb8⟩
    have HE8 := Lib.hid (HE7.out.trans hb8)
    have HA8 := Lib.hid (HA.out.ext HE8.out)
    have a1 := HA8.out.cell 1
    go_wp2_with fail
    refine (life_Of 200 A2 n c2 fs _ (HX.out.ext HE8.out) (by have := Hm.out; omega) Hbs.out (hg.ext (HZ.out.trans HE8.out)) (by have := Hs.out; have := Hm.out; omega) (hgl.ext (HZ.out.trans HE8.out))).mono ?_; rintro e w9 ⟨rfl, hb9⟩
    have HE9 := Lib.hid (HE8.out.trans hb9)
    have HA9 := Lib.hid (HA.out.ext HE9.out)
    have l6 := (HL.out.ext HE9.out).cell 6
    clear a1 hb8 hb9
    obtain ⟨j1, j2, j3⟩ := HJ.out
    have HOE := Lib.hid (fun w' h1 h2 h3 h4 h5 h6 => policy_OnError 200 A2 n c2 fs ra rb (-1) true rc x6 w' h1 h2 h3 h4 h5 h6)
    rw [show pairV (ofS 200 fs) = .tuple #[.int .i64 (lifeS ⟨200, fs, ⟨ra, rb, -1⟩, true⟩), .int .i64 (ofS 200 fs).2] from rfl]
    generalize (ofS 200 fs).2 = kd at *
    generalize lifeS ⟨200, fs, ⟨ra, rb, -1⟩, true⟩ = life at *
    generalize lmS ⟨200, fs, ⟨ra, rb, -1⟩, true⟩ = lim at *
    generalize jdS ⟨200, fs, ⟨ra, rb, -1⟩, true⟩ q rc x6 = J at *
    generalize oeS ⟨200, fs, ⟨ra, rb, -1⟩, true⟩ rc x6 = oe at *
    have HJJ := Lib.hid (⟨j1, j2, j3⟩ : _ ∧ _ ∧ _)
    clear j1 j2 j3 HJ
    by_cases h1 : J = 1
    · have m0 := l6
      have z1 : (J == 1) = true := by rw [beq_iff_eq]; exact h1
      have z2 : (J == 2) = false := by rw [beq_eq_false_iff_ne]; omega
      have y1 : old < life := HJJ.out.1 h1
      have y1b : ¬ life ≤ old := by omega
      have HJ3 := Lib.hid HJJ.out.2.2
      clear HJJ
      clear h1
      go_wp2_with (first
        | (refine wpList_loadB rfl 34 (.tmp 11) rfl ga rfl 34 _ HA9.out _ Tryd.underlying34 infoSt ?_))
      refine (HOE.out _ (HX.out.ext HE9.out) (by have := Hm.out; omega) Hbs.out (hg.ext (HZ.out.trans HE9.out)) (by have := Hs.out; have := Hm.out; omega) (hgl.ext (HZ.out.trans HE9.out))).mono ?_; rintro e wA ⟨rfl, hbA⟩
      cases oe
      · go_wp2_with fail
        go_ret
        exact ⟨rfl, HZ.out.trans (HE9.out.trans hbA)⟩
      · have y3 : old < lim := HJ3.out rfl
        go_wp2_with fail
        go_ret
        exact ⟨rfl, HZ.out.trans (HE9.out.trans hbA)⟩
    · by_cases h2 : J = 2
      · have m0 := l6
        have z1 : (J == 1) = false := by rw [beq_eq_false_iff_ne]; exact h1
        have z2 : (J == 2) = true := by rw [beq_iff_eq]; exact h2
        have y2 : old < lim := HJJ.out.2.1 h2
        have y2b : ¬ lim ≤ old := by omega
        have HJ3 := Lib.hid HJJ.out.2.2
        clear HJJ
        clear h1 h2
        go_wp2_with (first
          | (refine wpList_loadB rfl 34 (.tmp 11) rfl ga rfl 34 _ HA9.out _ Tryd.underlying34 infoSt ?_))
        refine (HOE.out _ (HX.out.ext HE9.out) (by have := Hm.out; omega) Hbs.out (hg.ext (HZ.out.trans HE9.out)) (by have := Hs.out; have := Hm.out; omega) (hgl.ext (HZ.out.trans HE9.out))).mono ?_; rintro e wA ⟨rfl, hbA⟩
        cases oe
        · go_wp2_with fail
          go_ret
          exact ⟨rfl, HZ.out.trans (HE9.out.trans hbA)⟩
        · have y3 : old < lim := HJ3.out rfl
          go_wp2_with fail
          go_ret
          exact ⟨rfl, HZ.out.trans (HE9.out.trans hbA)⟩
      · have m0 := l6
        have z1 : (J == 1) = false := by rw [beq_eq_false_iff_ne]; exact h1
        have z2 : (J == 2) = false := by rw [beq_eq_false_iff_ne]; exact h2
        have HJ3 := Lib.hid HJJ.out.2.2
        clear HJJ
        clear h1 h2
        go_wp2_with (first
          | (refine wpList_loadB rfl 34 (.tmp 11) rfl ga rfl 34 _ HA9.out _ Tryd.underlying34 infoSt ?_))
        refine (HOE.out _ (HX.out.ext HE9.out) (by have := Hm.out; omega) Hbs.out (hg.ext (HZ.out.trans HE9.out)) (by have := Hs.out; have := Hm.out; omega) (hgl.ext (HZ.out.trans HE9.out))).mono ?_; rintro e wA ⟨rfl, hbA⟩
        cases oe
        · go_wp2_with fail
          go_ret
          exact ⟨rfl, HZ.out.trans (HE9.out.trans hbA)⟩
        · have y3 : old < lim := HJ3.out rfl
          go_wp2_with fail
          go_ret
          exact ⟨rfl, HZ.out.trans (HE9.out.trans hbA)⟩
end Go.Proofs.YtocniclkooiggaaDoor
