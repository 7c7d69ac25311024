
/- The walk of DirectiveLattice: it returns true. -/
import Derived.Test.YtafmedphgmacaaaDoorL11m
import Derived.Test.YtafmedphgmacaaaDoorInv
namespace Go.Proofs.YtafmedphgmacaaaDoor
open Go.RowKit

theorem yield_loadG {P : Program} {ops : Array Oper} {o : Oper} {a : Act} {S : World → Prop} (hw : Region.wanted o (yielded ops a.tmps) = true) (ty : TypeId) (x : Operand) (ho : o.op = .load ty x)
    (g : Nat) (hx : a.eval x = .pointer (some ⟨g, 0, none⟩)) (t : TypeId) (cs : Array Value) (hg : ∀ w, S w → Blk w g t cs) (fs : Array Field)
    (hu : P.underlying ty = some (.struct fs)) (hi : (P.info? ty).map (·.size) = some cs.size) : YieldsIf P ops S o (.agg cs) a := by
  refine .inl ⟨hw, fun w hS => ?_⟩
  unfold execOp
  simp only [ho, hx, Instr.loadAt, Instr.sureAddr, Sem.run_bind, Sem.run_pure, Result.andThen_ok, run_loadVar_row w g t ty cs (0, 0) _ (hg w hS) hu rfl hi]
theorem yield_eqlG {P : Program} {ops : Array Oper} {o : Oper} {a : Act} {S : World → Prop} (hw : Region.wanted o (yielded ops a.tmps) = true) (t u : TypeId) (x y : Operand) (ho : o.op = .binOp .eql t x y u) (vx vy : Array Value) (b : Value) (hx : a.eval x = .agg vx) (hy : a.eval y = .agg vy) (hm : P.eqGuardType P.depth t = false)
    (h : ∀ w, (binOp .eql t (.agg vx) (.agg vy)).run P w = .ok b w) : YieldsIf P ops S o b a := by
  refine .inl ⟨hw, fun w _ => ?_⟩
  unfold execOp
  simp only [ho, hx, hy, Sem.run_bind, Sem.run_pure, run_eqGuard_agg (hm := hm), h, Result.andThen_ok]
theorem mg_as (x y r : D) (h : r = mgD x y) (w : World) : Calls Tryd.prog 9 #[.agg (dArr x), .agg (dArr y)] w fun e w' => e = .returned (.agg (dArr r)) ∧ Ext w w' := by
  subst h; exact dir_Merge x y w

set_option maxHeartbeats 8000000 in
set_option maxRecDepth 100000 in
theorem lattice_walk (x y z : D) (w : World) (hg : Gl w) :
    Calls Tryd.prog 4 #[.agg (dArr x), .agg (dArr y), .agg (dArr z)] w fun e w' => e = .returned (.bool true) ∧ Ext w w' := by
  have hA := ((Blk.new w 23 (dArr x)).alloc (.cells (dArr y) 23)).alloc (.cells (dArr z) 23)
  have hB := (Blk.new (w.alloc (.cells (dArr x) 23)) 23 (dArr y)).alloc (.cells (dArr z) 23)
  have hC := Blk.new ((w.alloc (.cells (dArr x) 23)).alloc (.cells (dArr y) 23)) 23 (dArr z)
  rw [World.size_alloc] at hB
  rw [World.size_alloc, World.size_alloc] at hC
  have hEE := (((Ext.refl w).alloc (.cells (dArr x) 23)).alloc (.cells (dArr y) 23)).alloc (.cells (dArr z) 23)
  have HK := Lib.hid (⟨hA, hB, hC, hEE⟩ : _ ∧ _ ∧ _ ∧ _)
  clear hA hB hC hEE
  go_enter Tryd.func4, Tryd.ntmps4
  go_wp2_with fail
  obtain ⟨hA, hB, hC, hEE⟩ := HK.out
  clear HK
  generalize (((w.alloc (.cells (dArr x) 23)).alloc (.cells (dArr y) 23)).alloc (.cells (dArr z) 23)) = W0 at *
  have HA := Lib.hid hA; have HB := Lib.hid hB; have HC := Lib.hid hC; have HE := Lib.hid hEE
  clear hA hB hC hEE
  refine (law_awake _ (hg.ext HE.out)).mono ?_; rintro e w2 ⟨rfl, hb2⟩
  have HB2 := Lib.hid hb2
  clear hb2
  go_wp2_with fail
  have hE := HB2.out.drew
  refine wp_region_held_drew (S := (fun w' => Blk w' w.heap.size 23 (dArr x) ∧ Blk w' (w.heap.size + 1) 23 (dArr y) ∧ Blk w' (w.heap.size + 1 + 1) 23 (dArr z))) (by kernel_rfl) ?_ (fun hHeld => ?_)
  · (try dsimp only); exact ⟨HA.out.ext hE, HB.out.ext hE, HC.out.ext hE⟩
  refine wpAnyH_take (i := 0) (oi := { dst := some 13, op := _, type := _, pos := _, after := _, guard := _ }) (v := .agg (dArr x)) rfl (by kernel_rfl) (by kernel_rfl) (by kernel_rfl) (fun _ _ _ h => h) (yield_loadB rfl 23 (.tmp 3) rfl (w.heap.size) rfl 23 _ (fun w h => h.1) _ Tryd.underlying23 infoD) (by assumption) ?_
  (try simp only [Act.put, List.setIfInBounds_toArray, List.set_cons_zero, List.set_cons_succ])
  refine wpAnyH_take (i := 2) (oi := { dst := some 15, op := _, type := _, pos := _, after := _, guard := _ }) (v := .agg (dArr y)) rfl (by kernel_rfl) (by kernel_rfl) (by kernel_rfl) (fun _ _ _ h => h) (yield_loadB rfl 23 (.tmp 4) rfl (w.heap.size + 1) rfl 23 _ (fun w h => h.2.1) _ Tryd.underlying23 infoD) (by assumption) ?_
  (try simp only [Act.put, List.setIfInBounds_toArray, List.set_cons_zero, List.set_cons_succ])
  refine wpAnyH_take (i := 4) (oi := { dst := some 17, op := _, type := _, pos := _, after := _, guard := _ }) (v := .agg (dArr z)) rfl (by kernel_rfl) (by kernel_rfl) (by kernel_rfl) (fun _ _ _ h => h) (yield_loadB rfl 23 (.tmp 5) rfl (w.heap.size + 1 + 1) rfl 23 _ (fun w h => h.2.2) _ Tryd.underlying23 infoD) (by assumption) ?_
  (try simp only [Act.put, List.setIfInBounds_toArray, List.set_cons_zero, List.set_cons_succ])
  refine (wpAnyH_inv (I := (fun n listed a w1 => ∃ (c : Nat) (b7 b8 b9 : Bool) (g7 g8 g9 : Nat) (v7 v8 v9 v14 v16 v18 : Value), n = (3 - c) + (bif b7 then 0 else 1) + (bif b8 then 0 else 1) + (bif b9 then 0 else 1) ∧ c ≤ 3 ∧ listed = #[true, decide (1 ≤ c), true, decide (2 ≤ c), true, decide (3 ≤ c), b7, b8, b9, false, false, false] ∧ a = { tmps := #[.agg (dArr x), .agg (dArr y), .agg (dArr z), .pointer (some ⟨w.heap.size, 0, none⟩), .pointer (some ⟨w.heap.size + 1, 0, none⟩), .pointer (some ⟨w.heap.size + 1 + 1, 0, none⟩), .bool false, v7, v8, v9, undef, .bool true, .bool false, .agg (dArr x), v14, .agg (dArr y), v16, .agg (dArr z), v18, undef, undef, undef, undef, undef, undef, undef, undef, undef, undef, undef, undef, undef, undef, undef, undef, undef, undef, undef, undef, undef, undef, undef, undef, undef, undef, undef, undef, undef, undef, undef, undef, undef], defers := [] } ∧ Ext W0 w1 ∧
      (1 ≤ c → v14 = .agg (dArr x)) ∧ (2 ≤ c → v16 = .agg (dArr y)) ∧ (3 ≤ c → v18 = .agg (dArr z)) ∧
      (b7 = true → v7 = .pointer (some ⟨g7, 0, none⟩) ∧ Blk w1 g7 26 (dArr zeroD) ∧ W0.heap.size ≤ g7) ∧ (b8 = true → v8 = .pointer (some ⟨g8, 0, none⟩) ∧ Blk w1 g8 26 (dArr zeroD) ∧ W0.heap.size ≤ g8) ∧ (b9 = true → v9 = .pointer (some ⟨g9, 0, none⟩) ∧ Blk w1 g9 26 (dArr zeroD) ∧ W0.heap.size ≤ g9) ∧
      (b7 = true → b8 = true → g7 ≠ g8) ∧ (b7 = true → b9 = true → g7 ≠ g9) ∧ (b8 = true → b9 = true → g8 ≠ g9))) 3 ?_ ?_ 6 _ _ _ ?_ : _)
  rotate_left 2
  · exact ⟨0, false, false, false, 0, 0, 0, undef, undef, undef, undef, undef, undef, rfl, by decide, rfl, rfl, hE, (fun h => by omega), (fun h => by omega), (fun h => by omega), (fun h => by cases h), (fun h => by cases h), (fun h => by cases h), (fun h => by cases h), (fun h => by cases h), (fun h => by cases h)⟩
  · rintro listed a w1 ⟨c, b7, b8, b9, g7, g8, g9, v7, v8, v9, v14, v16, v18, hn, hc, rfl, rfl, hE1, k14, k16, k18, k7, k8, k9, d1, d2, d3⟩
    obtain ⟨rfl, rfl, rfl, rfl⟩ : c = 3 ∧ b7 = true ∧ b8 = true ∧ b9 = true := by cases b7 <;> cases b8 <;> cases b9 <;> simp at hn ⊢ <;> omega
    obtain rfl := k14 (by decide); obtain rfl := k16 (by decide); obtain rfl := k18 (by decide)
    obtain ⟨rfl, hb7, hw7⟩ := k7 rfl
    obtain ⟨rfl, hb8, hw8⟩ := k8 rfl
    obtain ⟨rfl, hb9, hw9⟩ := k9 rfl
    replace d1 := d1 rfl rfl; replace d2 := d2 rfl rfl; replace d3 := d3 rfl rfl
    clear k14 k16 k18 k7 k8 k9 hn hc hE
    refine wpAnyH_ready (rs := [9]) (by kernel_rfl) (by simp) ?_
    refine AllReadyH.cons (o := { dst := none, op := _, type := _, pos := _, after := _, guard := _ }) rfl (fun K hK => ?_) AllReadyH.nil
    refine step_storeB rfl 26 (.tmp 7) (.tmp 14) rfl rfl g7 _ rfl rfl 26 _ hb7 infoDp rfl (dArr_one x) ?_; intro w4 hC7 hx7
    replace hE1 := hE1.growB hx7 hw7
    replace hb8 := hb8.grown hx7 (by simp; omega)
    replace hb9 := hb9.grown hx7 (by simp; omega)
    refine hK.out _ _ ⟨HA.out.ext hE1, HB.out.ext hE1, HC.out.ext hE1⟩ (fun hHeld => ?_)
    clear hK K
    (try simp only [Act.put, List.setIfInBounds_toArray, List.set_cons_zero, List.set_cons_succ])
    refine wpAnyH_ready (rs := [10]) (by kernel_rfl) (by simp) ?_
    refine AllReadyH.cons (o := { dst := none, op := _, type := _, pos := _, after := _, guard := _ }) rfl (fun K hK => ?_) AllReadyH.nil
    refine step_storeB rfl 26 (.tmp 8) (.tmp 16) rfl rfl g8 _ rfl rfl 26 _ hb8 infoDp rfl (dArr_one y) ?_; intro w5 hC8 hx8
    replace hE1 := hE1.growB hx8 hw8
    replace hC7 := hC7.grown hx8 (by simp; omega)
    replace hb9 := hb9.grown hx8 (by simp; omega)
    refine hK.out _ _ ⟨HA.out.ext hE1, HB.out.ext hE1, HC.out.ext hE1⟩ (fun hHeld => ?_)
    clear hK K
    (try simp only [Act.put, List.setIfInBounds_toArray, List.set_cons_zero, List.set_cons_succ])
    refine wpAnyH_ready (rs := [11]) (by kernel_rfl) (by simp) ?_
    refine AllReadyH.cons (o := { dst := none, op := _, type := _, pos := _, after := _, guard := _ }) rfl (fun K hK => ?_) AllReadyH.nil
    refine step_storeB rfl 26 (.tmp 9) (.tmp 18) rfl rfl g9 _ rfl rfl 26 _ hb9 infoDp rfl (dArr_one z) ?_; intro w6 hC9 hx9
    replace hE1 := hE1.growB hx9 hw9
    replace hC7 := hC7.grown hx9 (by simp; omega)
    replace hC8 := hC8.grown hx9 (by simp; omega)
    refine hK.out _ _ ⟨HA.out.ext hE1, HB.out.ext hE1, HC.out.ext hE1⟩ (fun hHeld => ?_)
    clear hK K
    (try simp only [Act.put, List.setIfInBounds_toArray, List.set_cons_zero, List.set_cons_succ])
    refine wpAnyH_done (by kernel_rfl) ?_ _
    have HE1 := Lib.hid hE1
    have HC7 := Lib.hid hC7; have HC8 := Lib.hid hC8; have HC9 := Lib.hid hC9
    have HX := Lib.hid (⟨hE1.below.size, d1, d2, d3, hw7, hw8, hw9⟩ : _ ∧ _ ∧ _ ∧ _ ∧ _ ∧ _ ∧ _)
    clear hE1 hC7 hC8 hC9 hx7 hx8 hx9 d1 d2 d3 hw7 hw8 hw9 hb7 hb8 hb9 HA HB HC hHeld
    go_wp2_with (first
      | (refine wpList_loadB rfl 26 (.tmp 7) rfl g7 rfl 26 _ HC7.out _ Tryd.underlying26 infoDp ?_)
      | (refine wpList_loadB rfl 26 (.tmp 8) rfl g8 rfl 26 _ HC8.out _ Tryd.underlying26 infoDp ?_))
    refine (dir_Merge x y _).mono ?_; rintro e w7 ⟨rfl, hb7⟩
    have hN := Lib.hid (Blk.new w7 26 (dArr zeroD))
    go_wp2_with (first
      | (refine wpList_storeB rfl 26 (.tmp 10) (.tmp 21) rfl rfl w7.heap.size _ rfl rfl 26 _ hN.out infoDp rfl (dArr_one (mgD x y)) ?_; intro w8 hB8 hx8))
    have HSE := Lib.hid (⟨((HC7.out.ext hb7).alloc (.cells (dArr zeroD) 26)).grown hx8 (by have := (HC7.out.ext hb7).lt; simp; omega), ((HC8.out.ext hb7).alloc (.cells (dArr zeroD) 26)).grown hx8 (by have := (HC8.out.ext hb7).lt; simp; omega), ((HC9.out.ext hb7).alloc (.cells (dArr zeroD) 26)).grown hx8 (by have := (HC9.out.ext hb7).lt; simp; omega), hB8⟩ : _ ∧ _ ∧ _ ∧ _)
    have HE8 := Lib.hid (((HE1.out.trans hb7).alloc (.cells (dArr zeroD) 26)).growB hx8 (HE1.out.trans hb7).below.size)
    clear hb7 hB8 hx8 HC7 HC8 HC9 HE1 HX hN
    have hE := (Ext.refl w8).drew
    generalize w7.heap.size = gm at *
    have HQ := Lib.hid (eqlP (mgD x y)); have HP := Lib.hid (eqlP (mgD (mgD x y) z))
    refine wp_region_held_drew (S := (fun w' => Blk w' g7 26 (dArr x) ∧ Blk w' g8 26 (dArr y) ∧ Blk w' g9 26 (dArr z) ∧ Blk w' gm 26 (dArr (mgD x y)))) (by kernel_rfl) ?_ (fun hHeld => ?_)
    · (try dsimp only); exact ⟨HSE.out.1.ext hE, HSE.out.2.1.ext hE, HSE.out.2.2.1.ext hE, HSE.out.2.2.2.ext hE⟩
    refine wpAnyH_take (i := 0) (oi := { dst := some 22, op := _, type := _, pos := _, after := _, guard := _ }) (v := .agg (dArr (mgD x y))) rfl (by kernel_rfl) (by kernel_rfl) (by kernel_rfl) (fun _ _ _ h => h) (yield_loadG (by rfl) 26 (.tmp 10) rfl gm rfl 26 _ (fun w h => h.2.2.2) _ Tryd.underlying26 infoDp) (by assumption) ?_
    (try simp only [Act.put, List.setIfInBounds_toArray, List.set_cons_zero, List.set_cons_succ])
    refine wpAnyH_take (i := 1) (oi := { dst := some 23, op := _, type := _, pos := _, after := _, guard := _ }) (v := .agg (dArr y)) rfl (by kernel_rfl) (by kernel_rfl) (by kernel_rfl) (fun _ _ _ h => h) (yield_loadG (by rfl) 26 (.tmp 8) rfl g8 rfl 26 _ (fun w h => h.2.1) _ Tryd.underlying26 infoDp) (by assumption) ?_
    (try simp only [Act.put, List.setIfInBounds_toArray, List.set_cons_zero, List.set_cons_succ])
    refine wpAnyH_take (i := 2) (oi := { dst := some 24, op := _, type := _, pos := _, after := _, guard := _ }) (v := .agg (dArr x)) rfl (by kernel_rfl) (by kernel_rfl) (by kernel_rfl) (fun _ _ _ h => h) (yield_loadG (by rfl) 26 (.tmp 7) rfl g7 rfl 26 _ (fun w h => h.1) _ Tryd.underlying26 infoDp) (by assumption) ?_
    (try simp only [Act.put, List.setIfInBounds_toArray, List.set_cons_zero, List.set_cons_succ])
    refine wpAnyH_ready (rs := [3]) (by kernel_rfl) (by simp) ?_
    refine AllReadyH.cons (o := { dst := some 25, op := _, type := _, pos := _, after := _, guard := _ }) rfl (fun K hK => ?_) AllReadyH.nil
    go_simp
    refine (mg_as y x (mgD x y) (mg_comm x y) _).mono ?_; rintro e w1 ⟨rfl, hb1⟩; replace hE := hE.trans hb1; clear hb1
    try go_wp2_with fail
    refine hK.out _ _ ?_ (fun hHeld => ?_)
    · (try dsimp only); exact ⟨HSE.out.1.ext hE, HSE.out.2.1.ext hE, HSE.out.2.2.1.ext hE, HSE.out.2.2.2.ext hE⟩
    clear hK K
    (try simp only [Act.put, List.setIfInBounds_toArray, List.set_cons_zero, List.set_cons_succ])
    refine wpAnyH_take (i := 4) (oi := { dst := some 26, op := _, type := _, pos := _, after := _, guard := _ }) (v := .bool true) rfl (by kernel_rfl) (by kernel_rfl) (by kernel_rfl) (fun _ _ _ h => h) (yield_eqlG (by rfl) _ _ (.tmp 22) (.tmp 25) rfl _ _ _ rfl rfl (by kernel_rfl) HQ.out) (by assumption) ?_
    (try simp only [Act.put, List.setIfInBounds_toArray, List.set_cons_zero, List.set_cons_succ])
    refine wpAnyH_take (i := 5) (oi := { dst := some 27, op := _, type := _, pos := _, after := _, guard := _ }) (v := ?_) rfl (by kernel_rfl) (by kernel_rfl) (by kernel_rfl) (fun _ _ _ h => h) (Or.inl ⟨by rfl, ?_⟩) (by assumption) ?_
    rotate_left
    · (intro w hSw; (try dsimp only at hSw); go_simp; (try with_reducible rfl))
    (try simp only [Act.put, List.setIfInBounds_toArray, List.set_cons_zero, List.set_cons_succ])
    refine wpAnyH_take (i := 6) (oi := { dst := some 28, op := _, type := _, pos := _, after := _, guard := _ }) (v := .agg (dArr (mgD x y))) rfl (by kernel_rfl) (by kernel_rfl) (by kernel_rfl) (fun _ _ _ h => h) (yield_loadG (by rfl) 26 (.tmp 10) rfl gm rfl 26 _ (fun w h => h.2.2.2) _ Tryd.underlying26 infoDp) (by assumption) ?_
    (try simp only [Act.put, List.setIfInBounds_toArray, List.set_cons_zero, List.set_cons_succ])
    refine wpAnyH_take (i := 7) (oi := { dst := some 29, op := _, type := _, pos := _, after := _, guard := _ }) (v := .agg (dArr z)) rfl (by kernel_rfl) (by kernel_rfl) (by kernel_rfl) (fun _ _ _ h => h) (yield_loadG (by rfl) 26 (.tmp 9) rfl g9 rfl 26 _ (fun w h => h.2.2.1) _ Tryd.underlying26 infoDp) (by assumption) ?_
    (try simp only [Act.put, List.setIfInBounds_toArray, List.set_cons_zero, List.set_cons_succ])
    refine wpAnyH_take (i := 9) (oi := { dst := some 31, op := _, type := _, pos := _, after := _, guard := _ }) (v := .agg (dArr x)) rfl (by kernel_rfl) (by kernel_rfl) (by kernel_rfl) (fun _ _ _ h => h) (yield_loadG (by rfl) 26 (.tmp 7) rfl g7 rfl 26 _ (fun w h => h.1) _ Tryd.underlying26 infoDp) (by assumption) ?_
    (try simp only [Act.put, List.setIfInBounds_toArray, List.set_cons_zero, List.set_cons_succ])
    refine wpAnyH_take (i := 10) (oi := { dst := some 32, op := _, type := _, pos := _, after := _, guard := _ }) (v := .agg (dArr y)) rfl (by kernel_rfl) (by kernel_rfl) (by kernel_rfl) (fun _ _ _ h => h) (yield_loadG (by rfl) 26 (.tmp 8) rfl g8 rfl 26 _ (fun w h => h.2.1) _ Tryd.underlying26 infoDp) (by assumption) ?_
    (try simp only [Act.put, List.setIfInBounds_toArray, List.set_cons_zero, List.set_cons_succ])
    refine wpAnyH_take (i := 11) (oi := { dst := some 33, op := _, type := _, pos := _, after := _, guard := _ }) (v := .agg (dArr z)) rfl (by kernel_rfl) (by kernel_rfl) (by kernel_rfl) (fun _ _ _ h => h) (yield_loadG (by rfl) 26 (.tmp 9) rfl g9 rfl 26 _ (fun w h => h.2.2.1) _ Tryd.underlying26 infoDp) (by assumption) ?_
    (try simp only [Act.put, List.setIfInBounds_toArray, List.set_cons_zero, List.set_cons_succ])
    refine wpAnyH_ready (rs := [8]) (by kernel_rfl) (by simp) ?_
    refine AllReadyH.cons (o := { dst := some 30, op := _, type := _, pos := _, after := _, guard := _ }) rfl (fun K hK => ?_) AllReadyH.nil
    go_simp
    refine (dir_Merge (mgD x y) z _).mono ?_; rintro e w1 ⟨rfl, hb1⟩; replace hE := hE.trans hb1; clear hb1
    try go_wp2_with fail
    refine hK.out _ _ ?_ (fun hHeld => ?_)
    · (try dsimp only); exact ⟨HSE.out.1.ext hE, HSE.out.2.1.ext hE, HSE.out.2.2.1.ext hE, HSE.out.2.2.2.ext hE⟩
    clear hK K
    (try simp only [Act.put, List.setIfInBounds_toArray, List.set_cons_zero, List.set_cons_succ])
    refine wpAnyH_ready (rs := [12]) (by kernel_rfl) (by simp) ?_
    refine AllReadyH.cons (o := { dst := some 34, op := _, type := _, pos := _, after := _, guard := _ }) rfl (fun K hK => ?_) AllReadyH.nil
    go_simp
    refine (dir_Merge y z _).mono ?_; rintro e w1 ⟨rfl, hb1⟩; replace hE := hE.trans hb1; clear hb1
    try go_wp2_with fail
    refine hK.out _ _ ?_ (fun hHeld => ?_)
    · (try dsimp only); exact ⟨HSE.out.1.ext hE, HSE.out.2.1.ext hE, HSE.out.2.2.1.ext hE, HSE.out.2.2.2.ext hE⟩
    clear hK K
    (try simp only [Act.put, List.setIfInBounds_toArray, List.set_cons_zero, List.set_cons_succ])
    refine wpAnyH_ready (rs := [13]) (by kernel_rfl) (by simp) ?_
    refine AllReadyH.cons (o := { dst := some 35, op := _, type := _, pos := _, after := _, guard := _ }) rfl (fun K hK => ?_) AllReadyH.nil
    go_simp
    refine (mg_as x (mgD y z) (mgD (mgD x y) z) (mg_assoc x y z) _).mono ?_; rintro e w1 ⟨rfl, hb1⟩; replace hE := hE.trans hb1; clear hb1
    try go_wp2_with fail
    refine hK.out _ _ ?_ (fun hHeld => ?_)
    · (try dsimp only); exact ⟨HSE.out.1.ext hE, HSE.out.2.1.ext hE, HSE.out.2.2.1.ext hE, HSE.out.2.2.2.ext hE⟩
    clear hK K
    (try simp only [Act.put, List.setIfInBounds_toArray, List.set_cons_zero, List.set_cons_succ])
    refine wpAnyH_take (i := 14) (oi := { dst := some 36, op := _, type := _, pos := _, after := _, guard := _ }) (v := .bool true) rfl (by kernel_rfl) (by kernel_rfl) (by kernel_rfl) (fun _ _ _ h => h) (yield_eqlG (by rfl) _ _ (.tmp 30) (.tmp 35) rfl _ _ _ rfl rfl (by kernel_rfl) HP.out) (by assumption) ?_
    (try simp only [Act.put, List.setIfInBounds_toArray, List.set_cons_zero, List.set_cons_succ])
    refine wpAnyH_take (i := 15) (oi := { dst := some 37, op := _, type := _, pos := _, after := _, guard := _ }) (v := ?_) rfl (by kernel_rfl) (by kernel_rfl) (by kernel_rfl) (fun _ _ _ h => h) (Or.inl ⟨by rfl, ?_⟩) (by assumption) ?_
    rotate_left
    · (intro w hSw; (try dsimp only at hSw); go_simp; (try with_reducible rfl))
    (try simp only [Act.put, List.setIfInBounds_toArray, List.set_cons_zero, List.set_cons_succ])
    refine wpAnyH_take (i := 16) (oi := { dst := some 38, op := _, type := _, pos := _, after := _, guard := _ }) (v := ?_) rfl (by kernel_rfl) (by kernel_rfl) (by kernel_rfl) (fun _ _ _ h => h) (Or.inl ⟨by rfl, ?_⟩) (by assumption) ?_
    rotate_left
    · (intro w hSw; (try dsimp only at hSw); go_simp; (try with_reducible rfl))
    (try simp only [Act.put, List.setIfInBounds_toArray, List.set_cons_zero, List.set_cons_succ])
    refine wpAnyH_take (i := 17) (oi := { dst := some 39, op := _, type := _, pos := _, after := _, guard := _ }) (v := .agg (dArr (mgD x y))) rfl (by kernel_rfl) (by kernel_rfl) (by kernel_rfl) (fun _ _ _ h => h) (yield_loadG (by rfl) 26 (.tmp 10) rfl gm rfl 26 _ (fun w h => h.2.2.2) _ Tryd.underlying26 infoDp) (by assumption) ?_
    (try simp only [Act.put, List.setIfInBounds_toArray, List.set_cons_zero, List.set_cons_succ])
    refine wpAnyH_take (i := 18) (oi := { dst := some 40, op := _, type := _, pos := _, after := _, guard := _ }) (v := .agg (dArr (mgD x y))) rfl (by kernel_rfl) (by kernel_rfl) (by kernel_rfl) (fun _ _ _ h => h) (yield_loadG (by rfl) 26 (.tmp 10) rfl gm rfl 26 _ (fun w h => h.2.2.2) _ Tryd.underlying26 infoDp) (by assumption) ?_
    (try simp only [Act.put, List.setIfInBounds_toArray, List.set_cons_zero, List.set_cons_succ])
    refine wpAnyH_take (i := 20) (oi := { dst := some 42, op := _, type := _, pos := _, after := _, guard := _ }) (v := .agg (dArr (mgD x y))) rfl (by kernel_rfl) (by kernel_rfl) (by kernel_rfl) (fun _ _ _ h => h) (yield_loadG (by rfl) 26 (.tmp 10) rfl gm rfl 26 _ (fun w h => h.2.2.2) _ Tryd.underlying26 infoDp) (by assumption) ?_
    (try simp only [Act.put, List.setIfInBounds_toArray, List.set_cons_zero, List.set_cons_succ])
    refine wpAnyH_ready (rs := [19]) (by kernel_rfl) (by simp) ?_
    refine AllReadyH.cons (o := { dst := some 41, op := _, type := _, pos := _, after := _, guard := _ }) rfl (fun K hK => ?_) AllReadyH.nil
    go_simp
    refine (mg_as (mgD x y) (mgD x y) (mgD x y) ((mg_idem x y).symm) _).mono ?_; rintro e w1 ⟨rfl, hb1⟩; replace hE := hE.trans hb1; clear hb1
    try go_wp2_with fail
    refine hK.out _ _ ?_ (fun hHeld => ?_)
    · (try dsimp only); exact ⟨HSE.out.1.ext hE, HSE.out.2.1.ext hE, HSE.out.2.2.1.ext hE, HSE.out.2.2.2.ext hE⟩
    clear hK K
    (try simp only [Act.put, List.setIfInBounds_toArray, List.set_cons_zero, List.set_cons_succ])
    refine wpAnyH_take (i := 21) (oi := { dst := some 43, op := _, type := _, pos := _, after := _, guard := _ }) (v := .bool true) rfl (by kernel_rfl) (by kernel_rfl) (by kernel_rfl) (fun _ _ _ h => h) (yield_eqlG (by rfl) _ _ (.tmp 41) (.tmp 42) rfl _ _ _ rfl rfl (by kernel_rfl) HQ.out) (by assumption) ?_
    (try simp only [Act.put, List.setIfInBounds_toArray, List.set_cons_zero, List.set_cons_succ])
    refine wpAnyH_take (i := 22) (oi := { dst := some 44, op := _, type := _, pos := _, after := _, guard := _ }) (v := ?_) rfl (by kernel_rfl) (by kernel_rfl) (by kernel_rfl) (fun _ _ _ h => h) (Or.inl ⟨by rfl, ?_⟩) (by assumption) ?_
    rotate_left
    · (intro w hSw; (try dsimp only at hSw); go_simp; (try with_reducible rfl))
    (try simp only [Act.put, List.setIfInBounds_toArray, List.set_cons_zero, List.set_cons_succ])
    refine wpAnyH_take (i := 23) (oi := { dst := some 45, op := _, type := _, pos := _, after := _, guard := _ }) (v := ?_) rfl (by kernel_rfl) (by kernel_rfl) (by kernel_rfl) (fun _ _ _ h => h) (Or.inl ⟨by rfl, ?_⟩) (by assumption) ?_
    rotate_left
    · (intro w hSw; (try dsimp only at hSw); go_simp; (try with_reducible rfl))
    (try simp only [Act.put, List.setIfInBounds_toArray, List.set_cons_zero, List.set_cons_succ])
    refine wpAnyH_take (i := 24) (oi := { dst := some 46, op := _, type := _, pos := _, after := _, guard := _ }) (v := .agg (dArr (mgD x y))) rfl (by kernel_rfl) (by kernel_rfl) (by kernel_rfl) (fun _ _ _ h => h) (yield_loadG (by rfl) 26 (.tmp 10) rfl gm rfl 26 _ (fun w h => h.2.2.2) _ Tryd.underlying26 infoDp) (by assumption) ?_
    (try simp only [Act.put, List.setIfInBounds_toArray, List.set_cons_zero, List.set_cons_succ])
    refine wpAnyH_take (i := 25) (oi := { dst := some 47, op := _, type := _, pos := _, after := _, guard := _ }) (v := .agg (dArr x)) rfl (by kernel_rfl) (by kernel_rfl) (by kernel_rfl) (fun _ _ _ h => h) (yield_loadG (by rfl) 26 (.tmp 7) rfl g7 rfl 26 _ (fun w h => h.1) _ Tryd.underlying26 infoDp) (by assumption) ?_
    (try simp only [Act.put, List.setIfInBounds_toArray, List.set_cons_zero, List.set_cons_succ])
    refine wpAnyH_take (i := 27) (oi := { dst := some 49, op := _, type := _, pos := _, after := _, guard := _ }) (v := .agg (dArr (mgD x y))) rfl (by kernel_rfl) (by kernel_rfl) (by kernel_rfl) (fun _ _ _ h => h) (yield_loadG (by rfl) 26 (.tmp 10) rfl gm rfl 26 _ (fun w h => h.2.2.2) _ Tryd.underlying26 infoDp) (by assumption) ?_
    (try simp only [Act.put, List.setIfInBounds_toArray, List.set_cons_zero, List.set_cons_succ])
    refine wpAnyH_ready (rs := [26]) (by kernel_rfl) (by simp) ?_
    refine AllReadyH.cons (o := { dst := some 48, op := _, type := _, pos := _, after := _, guard := _ }) rfl (fun K hK => ?_) AllReadyH.nil
    go_simp
    refine (mg_as (mgD x y) x (mgD x y) ((mg_absorb x y).symm) _).mono ?_; rintro e w1 ⟨rfl, hb1⟩; replace hE := hE.trans hb1; clear hb1
    try go_wp2_with fail
    refine hK.out _ _ ?_ (fun hHeld => ?_)
    · (try dsimp only); exact ⟨HSE.out.1.ext hE, HSE.out.2.1.ext hE, HSE.out.2.2.1.ext hE, HSE.out.2.2.2.ext hE⟩
    clear hK K
    (try simp only [Act.put, List.setIfInBounds_toArray, List.set_cons_zero, List.set_cons_succ])
    refine wpAnyH_take (i := 28) (oi := { dst := some 50, op := _, type := _, pos := _, after := _, guard := _ }) (v := .bool true) rfl (by kernel_rfl) (by kernel_rfl) (by kernel_rfl) (fun _ _ _ h => h) (yield_eqlG (by rfl) _ _ (.tmp 48) (.tmp 49) rfl _ _ _ rfl rfl (by kernel_rfl) HQ.out) (by assumption) ?_
    (try simp only [Act.put, List.setIfInBounds_toArray, List.set_cons_zero, List.set_cons_succ])
    refine wpAnyH_take (i := 29) (oi := { dst := some 51, op := _, type := _, pos := _, after := _, guard := _ }) (v := ?_) rfl (by kernel_rfl) (by kernel_rfl) (by kernel_rfl) (fun _ _ _ h => h) (Or.inl ⟨by rfl, ?_⟩) (by assumption) ?_
    rotate_left
    · (intro w hSw; (try dsimp only at hSw); go_simp; (try with_reducible rfl))
    (try simp only [Act.put, List.setIfInBounds_toArray, List.set_cons_zero, List.set_cons_succ])
    refine wpAnyH_take (i := 30) (oi := { dst := some 6, op := _, type := _, pos := _, after := _, guard := _ }) (v := ?_) rfl (by kernel_rfl) (by kernel_rfl) (by kernel_rfl) (fun _ _ _ h => h) (Or.inl ⟨by rfl, ?_⟩) (by assumption) ?_
    rotate_left
    · (intro w hSw; (try dsimp only at hSw); go_simp; (try with_reducible rfl))
    (try simp only [Act.put, List.setIfInBounds_toArray, List.set_cons_zero, List.set_cons_succ])
    refine wpAnyH_done (by kernel_rfl) ?_ _
    go_wp2_with fail
    go_ret
    exact ⟨rfl, HE.out.trans (HE8.out.trans hE)⟩
  · rintro n listed a w1 ⟨c, b7, b8, b9, g7, g8, g9, v7, v8, v9, v14, v16, v18, hn, hc, rfl, rfl, hE1, k14, k16, k18, k7, k8, k9, d1, d2, d3⟩
    refine inv_step ((if c = 0 then [1] else if c = 1 then [3] else if c = 2 then [5] else []) ++ (bif b7 then [] else [6]) ++ (bif b8 then [] else [7]) ++ (bif b9 then [] else [8])) ?_ ?_ ?_
    · clear k14 k16 k18 k7 k8 k9 d1 d2 d3 hE1
      obtain rfl | rfl | rfl | rfl : c = 0 ∨ c = 1 ∨ c = 2 ∨ c = 3 := by omega
      all_goals (cases b7 <;> cases b8 <;> cases b9)
      all_goals first | (exfalso; simp at hn; done) | kernel_rfl
    · clear k14 k16 k18 k7 k8 k9 d1 d2 d3 hE1
      obtain rfl | rfl | rfl | rfl : c = 0 ∨ c = 1 ∨ c = 2 ∨ c = 3 := by omega
      all_goals (cases b7 <;> cases b8 <;> cases b9)
      all_goals first | (exfalso; simp at hn; done) | (intro h; cases h; done)
    · intro i hi
      have hi : (i = 1 ∧ c = 0) ∨ (i = 3 ∧ c = 1) ∨ (i = 5 ∧ c = 2) ∨ (i = 6 ∧ b7 = false) ∨ (i = 7 ∧ b8 = false) ∨ (i = 8 ∧ b9 = false) := by
        simp only [List.mem_append] at hi
        rcases hi with ((hi | hi) | hi) | hi
        · split at hi
          · simp at hi; exact .inl ⟨hi, by assumption⟩
          · split at hi
            · simp at hi; exact .inr (.inl ⟨hi, by assumption⟩)
            · split at hi
              · simp at hi; exact .inr (.inr (.inl ⟨hi, by assumption⟩))
              · simp at hi
        · cases b7 <;> simp at hi; exact .inr (.inr (.inr (.inl ⟨hi, rfl⟩)))
        · cases b8 <;> simp at hi; exact .inr (.inr (.inr (.inr (.inl ⟨hi, rfl⟩))))
        · cases b9 <;> simp at hi; exact .inr (.inr (.inr (.inr (.inr ⟨hi, rfl⟩))))
      have hSS : ∀ w', Ext W0 w' → (Blk w' w.heap.size 23 (dArr x) ∧ Blk w' (w.heap.size + 1) 23 (dArr y) ∧ Blk w' (w.heap.size + 1 + 1) 23 (dArr z)) := fun w' h => ⟨HA.out.ext h, HB.out.ext h, HC.out.ext h⟩
      rcases hi with ⟨rfl, rfl⟩ | ⟨rfl, rfl⟩ | ⟨rfl, rfl⟩ | ⟨rfl, rfl⟩ | ⟨rfl, rfl⟩ | ⟨rfl, rfl⟩
      · refine inv_op rfl (fun K hK => ?_)
        go_simp
        refine (law_Program x _).mono ?_; rintro e w3 ⟨rfl, hb3⟩
        try go_wp2_with fail
        have hE2 := hE1.trans hb3
        refine hK.out _ _ ⟨hSS _ hE2, 1, b7, b8, b9, g7, g8, g9, v7, v8, v9, .agg (dArr x), v16, v18, (by cases b7 <;> cases b8 <;> cases b9 <;> simp only [cond_true, cond_false] at hn ⊢ <;> omega), by decide, rfl, rfl, hE2, (fun _ => rfl), (fun h => by omega), (fun h => by omega), (fun h => ⟨(k7 h).1, (k7 h).2.1.ext hb3, (k7 h).2.2⟩), (fun h => ⟨(k8 h).1, (k8 h).2.1.ext hb3, (k8 h).2.2⟩), (fun h => ⟨(k9 h).1, (k9 h).2.1.ext hb3, (k9 h).2.2⟩), d1, d2, d3⟩
      · refine inv_op rfl (fun K hK => ?_)
        go_simp
        refine (law_Program y _).mono ?_; rintro e w3 ⟨rfl, hb3⟩
        try go_wp2_with fail
        have hE2 := hE1.trans hb3
        refine hK.out _ _ ⟨hSS _ hE2, 2, b7, b8, b9, g7, g8, g9, v7, v8, v9, .agg (dArr x), .agg (dArr y), v18, (by cases b7 <;> cases b8 <;> cases b9 <;> simp only [cond_true, cond_false] at hn ⊢ <;> omega), by decide, rfl, rfl, hE2, (fun _ => rfl), (fun _ => rfl), (fun h => by omega), (fun h => ⟨(k7 h).1, (k7 h).2.1.ext hb3, (k7 h).2.2⟩), (fun h => ⟨(k8 h).1, (k8 h).2.1.ext hb3, (k8 h).2.2⟩), (fun h => ⟨(k9 h).1, (k9 h).2.1.ext hb3, (k9 h).2.2⟩), d1, d2, d3⟩
      · refine inv_op rfl (fun K hK => ?_)
        go_simp
        refine (law_Program z _).mono ?_; rintro e w3 ⟨rfl, hb3⟩
        try go_wp2_with fail
        have hE2 := hE1.trans hb3
        refine hK.out _ _ ⟨hSS _ hE2, 3, b7, b8, b9, g7, g8, g9, v7, v8, v9, .agg (dArr x), .agg (dArr y), .agg (dArr z), (by cases b7 <;> cases b8 <;> cases b9 <;> simp only [cond_true, cond_false] at hn ⊢ <;> omega), by decide, rfl, rfl, hE2, (fun _ => rfl), (fun _ => rfl), (fun _ => rfl), (fun h => ⟨(k7 h).1, (k7 h).2.1.ext hb3, (k7 h).2.2⟩), (fun h => ⟨(k8 h).1, (k8 h).2.1.ext hb3, (k8 h).2.2⟩), (fun h => ⟨(k9 h).1, (k9 h).2.1.ext hb3, (k9 h).2.2⟩), d1, d2, d3⟩
      · refine inv_op rfl (fun K hK => ?_)
        go_simp
        try go_wp2_with fail
        have hE2 := hE1.alloc (.cells (dArr zeroD) 26)
        refine hK.out _ _ ⟨hSS _ hE2, c, true, b8, b9, w1.heap.size, g8, g9, .pointer (some ⟨w1.heap.size, 0, none⟩), v8, v9, v14, v16, v18, (by cases b8 <;> cases b9 <;> simp only [cond_true, cond_false] at hn ⊢ <;> omega), hc, rfl, rfl, hE2, k14, k16, k18, (fun _ => ⟨rfl, Blk.new w1 26 (dArr zeroD), hE1.below.size⟩), (fun h => ⟨(k8 h).1, (k8 h).2.1.alloc _, (k8 h).2.2⟩), (fun h => ⟨(k9 h).1, (k9 h).2.1.alloc _, (k9 h).2.2⟩), (fun _ h => by have := (k8 h).2.1.lt; omega), (fun _ h => by have := (k9 h).2.1.lt; omega), d3⟩
      · refine inv_op rfl (fun K hK => ?_)
        go_simp
        try go_wp2_with fail
        have hE2 := hE1.alloc (.cells (dArr zeroD) 26)
        refine hK.out _ _ ⟨hSS _ hE2, c, b7, true, b9, g7, w1.heap.size, g9, v7, .pointer (some ⟨w1.heap.size, 0, none⟩), v9, v14, v16, v18, (by cases b7 <;> cases b9 <;> simp only [cond_true, cond_false] at hn ⊢ <;> omega), hc, rfl, rfl, hE2, k14, k16, k18, (fun h => ⟨(k7 h).1, (k7 h).2.1.alloc _, (k7 h).2.2⟩), (fun _ => ⟨rfl, Blk.new w1 26 (dArr zeroD), hE1.below.size⟩), (fun h => ⟨(k9 h).1, (k9 h).2.1.alloc _, (k9 h).2.2⟩), (fun h _ => by have := (k7 h).2.1.lt; omega), d2, (fun _ h => by have := (k9 h).2.1.lt; omega)⟩
      · refine inv_op rfl (fun K hK => ?_)
        go_simp
        try go_wp2_with fail
        have hE2 := hE1.alloc (.cells (dArr zeroD) 26)
        refine hK.out _ _ ⟨hSS _ hE2, c, b7, b8, true, g7, g8, w1.heap.size, v7, v8, .pointer (some ⟨w1.heap.size, 0, none⟩), v14, v16, v18, (by cases b7 <;> cases b8 <;> simp only [cond_true, cond_false] at hn ⊢ <;> omega), hc, rfl, rfl, hE2, k14, k16, k18, (fun h => ⟨(k7 h).1, (k7 h).2.1.alloc _, (k7 h).2.2⟩), (fun h => ⟨(k8 h).1, (k8 h).2.1.alloc _, (k8 h).2.2⟩), (fun _ => ⟨rfl, Blk.new w1 26 (dArr zeroD), hE1.below.size⟩), d1, (fun h _ => by have := (k7 h).2.1.lt; omega), (fun h _ => by have := (k8 h).2.1.lt; omega)⟩
end Go.Proofs.YtafmedphgmacaaaDoor
