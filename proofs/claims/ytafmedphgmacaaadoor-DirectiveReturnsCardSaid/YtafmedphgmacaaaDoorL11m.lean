
/- The walks of the law package's Program and of DirectiveMerges: it returns true. -/
import Derived.Test.YtafmedphgmacaaaDoorL11w
import Derived.Test.YtafmedphgmacaaaDoorMergeR
namespace Go.Proofs.YtafmedphgmacaaaDoor
open Go.RowKit

theorem yield_eql {P : Program} {ops : Array Oper} {o : Oper} {a : Act} {S : World → Prop} (hgd : o.guard = none) (t u : TypeId) (x y : Operand) (ho : o.op = .binOp .eql t x y u) (vx vy : Array Value) (b : Value) (hx : a.eval x = .agg vx) (hy : a.eval y = .agg vy) (hm : P.eqGuardType P.depth t = false)
    (h : ∀ w, (binOp .eql t (.agg vx) (.agg vy)).run P w = .ok b w) : YieldsIf P ops S o b a := by
  refine .inl ⟨by simp [Region.wanted, hgd], fun w _ => ?_⟩
  unfold execOp
  simp only [ho, hx, hy, Sem.run_bind, Sem.run_pure, run_eqGuard_agg (hm := hm), h, Result.andThen_ok]

set_option maxHeartbeats 1000000 in
set_option maxRecDepth 100000 in
theorem law_Program (d : D) (w : World) : Calls Tryd.prog 10 #[.agg (dArr d)] w fun e w' => e = .returned (.agg (dArr d)) ∧ Ext w w' := by
  have hB := Lib.hid (Blk.new (w.alloc (.cells (dArr d) 23)) 26 (dArr zeroD))
  rw [World.size_alloc] at hB
  go_enter Tryd.func10, Tryd.ntmps10
  unfold dArr
  go_wp2_with (first
    | (refine wpList_storeB rfl 26 (.tmp 2) (.tmp 27) rfl rfl (w.heap.size + 1) _ rfl rfl 26 _ hB.out infoDp rfl (dArr_one d) ?_; intro w9 hB9 hx9))
  exact bodyPost_ret (v := .agg (dArr d)) (results_cell_row rfl _ _ (w.heap.size + 1) 26 _ (0, 0) _ rfl hB9 Tryd.underlying26 rfl infoDp) rfl ⟨rfl, (((Ext.refl w).alloc _).alloc _).growB hx9 (by omega)⟩

set_option maxHeartbeats 4000000 in
set_option maxRecDepth 100000 in
theorem merges_walk (x y : D) (w : World) (hg : Gl w) :
    Calls Tryd.prog 3 #[.agg (dArr x), .agg (dArr y)] w fun e w' => e = .returned (.bool true) ∧ Ext w w' := by
  have hA := (Blk.new w 23 (dArr x)).alloc (.cells (dArr y) 23)
  have hB := Blk.new (w.alloc (.cells (dArr x) 23)) 23 (dArr y)
  rw [World.size_alloc] at hB
  have hEE := ((Ext.refl w).alloc (.cells (dArr x) 23)).alloc (.cells (dArr y) 23)
  have HQ := Lib.hid (eqlR (mgD x y))
  have HK := Lib.hid (⟨hA, hB, hEE⟩ : _ ∧ _ ∧ _)
  clear hA hB hEE
  go_enter Tryd.func3, Tryd.ntmps3
  go_wp2_with fail
  obtain ⟨hA, hB, hEE⟩ := HK.out
  clear HK
  generalize ((w.alloc (.cells (dArr x) 23)).alloc (.cells (dArr y) 23)) = W0 at *
  have HA := Lib.hid hA; have HB := Lib.hid hB; have HE := Lib.hid hEE
  clear hA hB hEE
  refine (law_awake _ (hg.ext HE.out)).mono ?_; rintro e w2 ⟨rfl, hb2⟩
  have HB2 := Lib.hid hb2
  clear hb2
  go_wp2_with fail
  have hE := HB2.out.drew
  refine wp_region_held_drew (S := (fun w' => Blk w' w.heap.size 23 (dArr x) ∧ Blk w' (w.heap.size + 1) 23 (dArr y))) (by kernel_rfl) ?_ (fun hHeld => ?_)
  · (try dsimp only); exact ⟨HA.out.ext hE, HB.out.ext hE⟩
  refine wpAnyH_take (i := 0) (oi := { dst := some 7, op := _, type := _, pos := _, after := _, guard := _ }) (v := .agg (dArr x)) rfl (by kernel_rfl) (by kernel_rfl) (by kernel_rfl) (fun _ _ _ h => h) (yield_loadB rfl 23 (.tmp 2) rfl (w.heap.size) rfl 23 _ (fun w h => h.1) _ Tryd.underlying23 infoD) (by assumption) ?_
  (try simp only [Act.put, List.setIfInBounds_toArray, List.set_cons_zero, List.set_cons_succ])
  refine wpAnyH_take (i := 2) (oi := { dst := some 9, op := _, type := _, pos := _, after := _, guard := _ }) (v := .agg (dArr y)) rfl (by kernel_rfl) (by kernel_rfl) (by kernel_rfl) (fun _ _ _ h => h) (yield_loadB rfl 23 (.tmp 3) rfl (w.heap.size + 1) rfl 23 _ (fun w h => h.2) _ Tryd.underlying23 infoD) (by assumption) ?_
  (try simp only [Act.put, List.setIfInBounds_toArray, List.set_cons_zero, List.set_cons_succ])
  refine wpAnyH_take (i := 6) (oi := { dst := some 13, op := _, type := _, pos := _, after := _, guard := _ }) (v := .agg (dArr x)) rfl (by kernel_rfl) (by kernel_rfl) (by kernel_rfl) (fun _ _ _ h => h) (yield_loadB rfl 23 (.tmp 2) rfl (w.heap.size) rfl 23 _ (fun w h => h.1) _ Tryd.underlying23 infoD) (by assumption) ?_
  (try simp only [Act.put, List.setIfInBounds_toArray, List.set_cons_zero, List.set_cons_succ])
  refine wpAnyH_take (i := 7) (oi := { dst := some 14, op := _, type := _, pos := _, after := _, guard := _ }) (v := .agg (dArr y)) rfl (by kernel_rfl) (by kernel_rfl) (by kernel_rfl) (fun _ _ _ h => h) (yield_loadB rfl 23 (.tmp 3) rfl (w.heap.size + 1) rfl 23 _ (fun w h => h.2) _ Tryd.underlying23 infoD) (by assumption) ?_
  (try simp only [Act.put, List.setIfInBounds_toArray, List.set_cons_zero, List.set_cons_succ])
  refine wpAnyH_ready (rs := [1]) (by kernel_rfl) (by simp) ?_
  refine AllReadyH.cons (o := { dst := some 8, op := _, type := _, pos := _, after := _, guard := _ }) rfl (fun K hK => ?_) AllReadyH.nil
  go_simp
  refine (law_Program x _).mono ?_; rintro e w1 ⟨rfl, hb1⟩; replace hE := hE.trans hb1; clear hb1
  try go_wp2_with fail
  refine hK.out _ _ ?_ (fun hHeld => ?_)
  · (try dsimp only); exact ⟨HA.out.ext hE, HB.out.ext hE⟩
  clear hK K
  (try simp only [Act.put, List.setIfInBounds_toArray, List.set_cons_zero, List.set_cons_succ])
  refine wpAnyH_ready (rs := [3]) (by kernel_rfl) (by simp) ?_
  refine AllReadyH.cons (o := { dst := some 10, op := _, type := _, pos := _, after := _, guard := _ }) rfl (fun K hK => ?_) AllReadyH.nil
  go_simp
  refine (law_Program y _).mono ?_; rintro e w1 ⟨rfl, hb1⟩; replace hE := hE.trans hb1; clear hb1
  try go_wp2_with fail
  refine hK.out _ _ ?_ (fun hHeld => ?_)
  · (try dsimp only); exact ⟨HA.out.ext hE, HB.out.ext hE⟩
  clear hK K
  (try simp only [Act.put, List.setIfInBounds_toArray, List.set_cons_zero, List.set_cons_succ])
  refine wpAnyH_ready (rs := [4]) (by kernel_rfl) (by simp) ?_
  refine AllReadyH.cons (o := { dst := some 11, op := _, type := _, pos := _, after := _, guard := _ }) rfl (fun K hK => ?_) AllReadyH.nil
  go_simp
  refine (dir_Merge x y _).mono ?_; rintro e w1 ⟨rfl, hb1⟩; replace hE := hE.trans hb1; clear hb1
  try go_wp2_with fail
  refine hK.out _ _ ?_ (fun hHeld => ?_)
  · (try dsimp only); exact ⟨HA.out.ext hE, HB.out.ext hE⟩
  clear hK K
  (try simp only [Act.put, List.setIfInBounds_toArray, List.set_cons_zero, List.set_cons_succ])
  refine wpAnyH_ready (rs := [5]) (by kernel_rfl) (by simp) ?_
  refine AllReadyH.cons (o := { dst := some 12, op := _, type := _, pos := _, after := _, guard := _ }) rfl (fun K hK => ?_) AllReadyH.nil
  go_simp
  refine (law_Plain (mgD x y) _).mono ?_; rintro e w1 ⟨rfl, hb1⟩; replace hE := hE.trans hb1; clear hb1
  try go_wp2_with fail
  refine hK.out _ _ ?_ (fun hHeld => ?_)
  · (try dsimp only); exact ⟨HA.out.ext hE, HB.out.ext hE⟩
  clear hK K
  (try simp only [Act.put, List.setIfInBounds_toArray, List.set_cons_zero, List.set_cons_succ])
  refine wpAnyH_ready (rs := [8]) (by kernel_rfl) (by simp) ?_
  refine AllReadyH.cons (o := { dst := some 15, op := _, type := _, pos := _, after := _, guard := _ }) rfl (fun K hK => ?_) AllReadyH.nil
  go_simp
  refine (ref_Merge x y _).mono ?_; rintro e w1 ⟨rfl, hb1⟩; replace hE := hE.trans hb1; clear hb1
  try go_wp2_with fail
  refine hK.out _ _ ?_ (fun hHeld => ?_)
  · (try dsimp only); exact ⟨HA.out.ext hE, HB.out.ext hE⟩
  clear hK K
  (try simp only [Act.put, List.setIfInBounds_toArray, List.set_cons_zero, List.set_cons_succ])
  refine wpAnyH_take (i := 9) (oi := { dst := some 16, op := _, type := _, pos := _, after := _, guard := _ }) (v := .bool true) rfl (by kernel_rfl) (by kernel_rfl) (by kernel_rfl) (fun _ _ _ h => h) (yield_eql rfl _ _ (.tmp 12) (.tmp 15) rfl _ _ _ rfl rfl (by kernel_rfl) HQ.out) (by assumption) ?_
  (try simp only [Act.put, List.setIfInBounds_toArray, List.set_cons_zero, List.set_cons_succ])
  refine wpAnyH_take (i := 10) (oi := { dst := some 4, op := _, type := _, pos := _, after := _, guard := _ }) (v := ?_) rfl (by kernel_rfl) (by kernel_rfl) (by kernel_rfl) (fun _ _ _ h => h) (Or.inl ⟨by rfl, ?_⟩) (by assumption) ?_
  rotate_left
  · (intro w hSw; (try dsimp only at hSw); go_simp; (try with_reducible rfl))
  (try simp only [Act.put, List.setIfInBounds_toArray, List.set_cons_zero, List.set_cons_succ])
  refine wpAnyH_done (by kernel_rfl) ?_ _
  go_wp2_with fail
  go_ret
  exact ⟨rfl, HE.out.trans hE⟩
end Go.Proofs.YtafmedphgmacaaaDoor
