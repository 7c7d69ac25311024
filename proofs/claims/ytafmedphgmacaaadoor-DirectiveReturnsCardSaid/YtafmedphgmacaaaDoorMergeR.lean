
/- The walks of quaysideref11.Normal and Merge. -/
import Derived.Test.YtafmedphgmacaaaDoorMerge
namespace Go.Proofs.YtafmedphgmacaaaDoor
open Go.RowKit

set_option maxHeartbeats 16000000 in
set_option maxRecDepth 100000 in
theorem ref_Normal (x : D) (w : World) : Calls Tryd.prog 16 #[.agg (dArr x)] w fun e w' => e = .returned (.agg (dArr (nmD x))) ∧ Ext w w' := by
  obtain ⟨a0, a1, a2, a3, a4, a5, p0, p1, p2, p3, p4, p5⟩ := x
  have hA : Blk ((w.alloc (.cells (dArr ⟨a0, a1, a2, a3, a4, a5, p0, p1, p2, p3, p4, p5⟩) 23)).alloc (.cells #[.bool false, .bool false, .bool false, .bool false, .bool false, .bool false, .int .i64 0, .int .i64 0, .int .i64 0, .int .i64 0, .int .i64 0, .int .i64 0] 23)) w.heap.size 23 (dArr ⟨a0, a1, a2, a3, a4, a5, p0, p1, p2, p3, p4, p5⟩) := (Blk.new w 23 (dArr ⟨a0, a1, a2, a3, a4, a5, p0, p1, p2, p3, p4, p5⟩)).alloc (.cells (dArr zeroD) 23)
  have hR : Blk ((w.alloc (.cells (dArr ⟨a0, a1, a2, a3, a4, a5, p0, p1, p2, p3, p4, p5⟩) 23)).alloc (.cells #[.bool false, .bool false, .bool false, .bool false, .bool false, .bool false, .int .i64 0, .int .i64 0, .int .i64 0, .int .i64 0, .int .i64 0, .int .i64 0] 23)) (w.heap.size + 1) 23 (dArr zeroD) := by
    have h := Blk.new (w.alloc (.cells (dArr ⟨a0, a1, a2, a3, a4, a5, p0, p1, p2, p3, p4, p5⟩) 23)) 23 (dArr zeroD)
    rw [World.size_alloc] at h
    exact h
  have hEE : Ext w ((w.alloc (.cells (dArr ⟨a0, a1, a2, a3, a4, a5, p0, p1, p2, p3, p4, p5⟩) 23)).alloc (.cells #[.bool false, .bool false, .bool false, .bool false, .bool false, .bool false, .int .i64 0, .int .i64 0, .int .i64 0, .int .i64 0, .int .i64 0, .int .i64 0] 23)) := ((Ext.refl w).alloc (.cells (dArr ⟨a0, a1, a2, a3, a4, a5, p0, p1, p2, p3, p4, p5⟩) 23)).alloc (.cells (dArr zeroD) 23)
  have HK := Lib.hid (⟨hA, hR, hEE⟩ : _ ∧ _ ∧ _)
  clear hA hR hEE
  go_enter Tryd.func16, Tryd.ntmps16
  go_wp2_with fail
  obtain ⟨hA, hR, hEE⟩ := HK.out
  clear HK
  generalize ((w.alloc (.cells (dArr ⟨a0, a1, a2, a3, a4, a5, p0, p1, p2, p3, p4, p5⟩) 23)).alloc (.cells #[.bool false, .bool false, .bool false, .bool false, .bool false, .bool false, .int .i64 0, .int .i64 0, .int .i64 0, .int .i64 0, .int .i64 0, .int .i64 0] 23)) = W0 at *
  have HA := Lib.hid hA; have HR := Lib.hid hR; have HEE := Lib.hid hEE
  clear hA hR hEE
  have HS := Lib.hid (show ∀ w', Ext W0 w' → (w'.cell? ⟨w.heap.size, 0, none⟩ = some (.bool a0) ∧ w'.cell? ⟨w.heap.size, 1, none⟩ = some (.bool a1) ∧ w'.cell? ⟨w.heap.size, 2, none⟩ = some (.bool a2) ∧ w'.cell? ⟨w.heap.size, 3, none⟩ = some (.bool a3) ∧ w'.cell? ⟨w.heap.size, 4, none⟩ = some (.bool a4) ∧ w'.cell? ⟨w.heap.size, 5, none⟩ = some (.bool a5) ∧ w'.cell? ⟨w.heap.size, 6, none⟩ = some (.int .i64 (p0)) ∧ w'.cell? ⟨w.heap.size, 7, none⟩ = some (.int .i64 (p1)) ∧ w'.cell? ⟨w.heap.size, 8, none⟩ = some (.int .i64 (p2)) ∧ w'.cell? ⟨w.heap.size, 9, none⟩ = some (.int .i64 (p3)) ∧ w'.cell? ⟨w.heap.size, 10, none⟩ = some (.int .i64 (p4)) ∧ w'.cell? ⟨w.heap.size, 11, none⟩ = some (.int .i64 (p5))) from fun w' h => ⟨(HA.out.ext h).cell 0, (HA.out.ext h).cell 1, (HA.out.ext h).cell 2, (HA.out.ext h).cell 3, (HA.out.ext h).cell 4, (HA.out.ext h).cell 5, (HA.out.ext h).cell 6, (HA.out.ext h).cell 7, (HA.out.ext h).cell 8, (HA.out.ext h).cell 9, (HA.out.ext h).cell 10, (HA.out.ext h).cell 11⟩)
  have hE := (Ext.refl W0).drew
  refine wp_region_U (S := (fun w' => w'.cell? ⟨w.heap.size, 0, none⟩ = some (.bool a0) ∧ w'.cell? ⟨w.heap.size, 1, none⟩ = some (.bool a1) ∧ w'.cell? ⟨w.heap.size, 2, none⟩ = some (.bool a2) ∧ w'.cell? ⟨w.heap.size, 3, none⟩ = some (.bool a3) ∧ w'.cell? ⟨w.heap.size, 4, none⟩ = some (.bool a4) ∧ w'.cell? ⟨w.heap.size, 5, none⟩ = some (.bool a5) ∧ w'.cell? ⟨w.heap.size, 6, none⟩ = some (.int .i64 (p0)) ∧ w'.cell? ⟨w.heap.size, 7, none⟩ = some (.int .i64 (p1)) ∧ w'.cell? ⟨w.heap.size, 8, none⟩ = some (.int .i64 (p2)) ∧ w'.cell? ⟨w.heap.size, 9, none⟩ = some (.int .i64 (p3)) ∧ w'.cell? ⟨w.heap.size, 10, none⟩ = some (.int .i64 (p4)) ∧ w'.cell? ⟨w.heap.size, 11, none⟩ = some (.int .i64 (p5)))) 19 (by kernel_rfl) ?_ (fun hHeld => ?_)
  · (try dsimp only); exact HS.out _ hE
  refine wpAnyU_takeW (i := 0) (oi := { dst := some 3, op := _, type := _, pos := _, after := _, guard := _ }) (v := ?_) (by kernel_rfl) rfl (by kernel_rfl) (by kernel_rfl) (by kernel_rfl) (fun _ _ _ h => h) (Or.inl ⟨by rfl, ?_⟩) (by assumption) ?_
  rotate_left
  · (intro w hSw; (try dsimp only at hSw); go_simp; (try with_reducible rfl))
  (try simp only [Act.put, List.setIfInBounds_toArray, List.set_cons_zero, List.set_cons_succ])
  refine wpAnyU_take (i := 1) (oi := { dst := some 4, op := _, type := _, pos := _, after := _, guard := _ }) (v := ?_) [2, 5, 8, 11, 14, 17, 18, 19, 20, 21, 22, 23, 24, 25, 26, 27, 28, 29] (by kernel_rfl) (by kernel_rfl) (by kernel_rfl) (by kernel_rfl) rfl (by kernel_rfl) (by kernel_rfl) (by kernel_rfl) (fun _ _ _ h => h) (Or.inl ⟨by rfl, ?_⟩) (by assumption) ?_
  rotate_left
  · (intro w hSw; (try dsimp only at hSw); go_simp; (try with_reducible rfl))
  (try simp only [Act.put, List.setIfInBounds_toArray, List.set_cons_zero, List.set_cons_succ])
  refine wpAnyU_takeW (i := 3) (oi := { dst := some 6, op := _, type := _, pos := _, after := _, guard := _ }) (v := ?_) (by kernel_rfl) rfl (by kernel_rfl) (by kernel_rfl) (by kernel_rfl) (fun _ _ _ h => h) (Or.inl ⟨by rfl, ?_⟩) (by assumption) ?_
  rotate_left
  · (intro w hSw; (try dsimp only at hSw); go_simp; (try with_reducible rfl))
  (try simp only [Act.put, List.setIfInBounds_toArray, List.set_cons_zero, List.set_cons_succ])
  refine wpAnyU_take (i := 4) (oi := { dst := some 7, op := _, type := _, pos := _, after := _, guard := _ }) (v := ?_) [5, 8, 11, 14, 17, 18, 19, 20, 21, 22, 23, 24, 25, 26, 27, 28, 29] (by kernel_rfl) (by kernel_rfl) (by kernel_rfl) (by kernel_rfl) rfl (by kernel_rfl) (by kernel_rfl) (by kernel_rfl) (fun _ _ _ h => h) (Or.inl ⟨by rfl, ?_⟩) (by assumption) ?_
  rotate_left
  · (intro w hSw; (try dsimp only at hSw); go_simp; (try with_reducible rfl))
  (try simp only [Act.put, List.setIfInBounds_toArray, List.set_cons_zero, List.set_cons_succ])
  refine wpAnyU_takeW (i := 6) (oi := { dst := some 9, op := _, type := _, pos := _, after := _, guard := _ }) (v := ?_) (by kernel_rfl) rfl (by kernel_rfl) (by kernel_rfl) (by kernel_rfl) (fun _ _ _ h => h) (Or.inl ⟨by rfl, ?_⟩) (by assumption) ?_
  rotate_left
  · (intro w hSw; (try dsimp only at hSw); go_simp; (try with_reducible rfl))
  (try simp only [Act.put, List.setIfInBounds_toArray, List.set_cons_zero, List.set_cons_succ])
  refine wpAnyU_take (i := 7) (oi := { dst := some 10, op := _, type := _, pos := _, after := _, guard := _ }) (v := ?_) [8, 11, 14, 17, 18, 19, 20, 21, 22, 23, 24, 25, 26, 27, 28, 29] (by kernel_rfl) (by kernel_rfl) (by kernel_rfl) (by kernel_rfl) rfl (by kernel_rfl) (by kernel_rfl) (by kernel_rfl) (fun _ _ _ h => h) (Or.inl ⟨by rfl, ?_⟩) (by assumption) ?_
  rotate_left
  · (intro w hSw; (try dsimp only at hSw); go_simp; (try with_reducible rfl))
  (try simp only [Act.put, List.setIfInBounds_toArray, List.set_cons_zero, List.set_cons_succ])
  refine wpAnyU_takeW (i := 9) (oi := { dst := some 12, op := _, type := _, pos := _, after := _, guard := _ }) (v := ?_) (by kernel_rfl) rfl (by kernel_rfl) (by kernel_rfl) (by kernel_rfl) (fun _ _ _ h => h) (Or.inl ⟨by rfl, ?_⟩) (by assumption) ?_
  rotate_left
  · (intro w hSw; (try dsimp only at hSw); go_simp; (try with_reducible rfl))
  (try simp only [Act.put, List.setIfInBounds_toArray, List.set_cons_zero, List.set_cons_succ])
  refine wpAnyU_take (i := 10) (oi := { dst := some 13, op := _, type := _, pos := _, after := _, guard := _ }) (v := ?_) [11, 14, 17, 18, 19, 20, 21, 22, 23, 24, 25, 26, 27, 28, 29] (by kernel_rfl) (by kernel_rfl) (by kernel_rfl) (by kernel_rfl) rfl (by kernel_rfl) (by kernel_rfl) (by kernel_rfl) (fun _ _ _ h => h) (Or.inl ⟨by rfl, ?_⟩) (by assumption) ?_
  rotate_left
  · (intro w hSw; (try dsimp only at hSw); go_simp; (try with_reducible rfl))
  (try simp only [Act.put, List.setIfInBounds_toArray, List.set_cons_zero, List.set_cons_succ])
  refine wpAnyU_takeW (i := 12) (oi := { dst := some 15, op := _, type := _, pos := _, after := _, guard := _ }) (v := ?_) (by kernel_rfl) rfl (by kernel_rfl) (by kernel_rfl) (by kernel_rfl) (fun _ _ _ h => h) (Or.inl ⟨by rfl, ?_⟩) (by assumption) ?_
  rotate_left
  · (intro w hSw; (try dsimp only at hSw); go_simp; (try with_reducible rfl))
  (try simp only [Act.put, List.setIfInBounds_toArray, List.set_cons_zero, List.set_cons_succ])
  refine wpAnyU_take (i := 13) (oi := { dst := some 16, op := _, type := _, pos := _, after := _, guard := _ }) (v := ?_) [14, 17, 18, 19, 20, 21, 22, 23, 24, 25, 26, 27, 28, 29] (by kernel_rfl) (by kernel_rfl) (by kernel_rfl) (by kernel_rfl) rfl (by kernel_rfl) (by kernel_rfl) (by kernel_rfl) (fun _ _ _ h => h) (Or.inl ⟨by rfl, ?_⟩) (by assumption) ?_
  rotate_left
  · (intro w hSw; (try dsimp only at hSw); go_simp; (try with_reducible rfl))
  (try simp only [Act.put, List.setIfInBounds_toArray, List.set_cons_zero, List.set_cons_succ])
  refine wpAnyU_takeW (i := 15) (oi := { dst := some 18, op := _, type := _, pos := _, after := _, guard := _ }) (v := ?_) (by kernel_rfl) rfl (by kernel_rfl) (by kernel_rfl) (by kernel_rfl) (fun _ _ _ h => h) (Or.inl ⟨by rfl, ?_⟩) (by assumption) ?_
  rotate_left
  · (intro w hSw; (try dsimp only at hSw); go_simp; (try with_reducible rfl))
  (try simp only [Act.put, List.setIfInBounds_toArray, List.set_cons_zero, List.set_cons_succ])
  refine wpAnyU_take (i := 16) (oi := { dst := some 19, op := _, type := _, pos := _, after := _, guard := _ }) (v := ?_) [17, 18, 19, 20, 21, 22, 23, 24, 25, 26, 27, 28, 29] (by kernel_rfl) (by kernel_rfl) (by kernel_rfl) (by kernel_rfl) rfl (by kernel_rfl) (by kernel_rfl) (by kernel_rfl) (fun _ _ _ h => h) (Or.inl ⟨by rfl, ?_⟩) (by assumption) ?_
  rotate_left
  · (intro w hSw; (try dsimp only at hSw); go_simp; (try with_reducible rfl))
  (try simp only [Act.put, List.setIfInBounds_toArray, List.set_cons_zero, List.set_cons_succ])
  refine wpAnyU_ready (rs := [2]) (by kernel_rfl) (by simp) ?_
  refine AllReadyU.cons (o := { dst := some 5, op := _, type := _, pos := _, after := _, guard := _ }) rfl (fun K hK => ?_) AllReadyU.nil
  go_simp
  refine (ref_time _ _).mono ?_; rintro e w1 ⟨rfl, hb1⟩; replace hE := hE.trans hb1; clear hb1
  try go_wp2_with fail
  refine hK.out _ _ ?_ (fun hHeld => ?_)
  · (try dsimp only); exact HS.out _ hE
  clear hK K
  (try simp only [Act.put, List.setIfInBounds_toArray, List.set_cons_zero, List.set_cons_succ])
  refine wpAnyU_takeW (i := 18) (oi := { dst := some 21, op := _, type := _, pos := _, after := _, guard := _ }) (v := ?_) (by kernel_rfl) rfl (by kernel_rfl) (by kernel_rfl) (by kernel_rfl) (fun _ _ _ h => h) (Or.inl ⟨by rfl, ?_⟩) (by assumption) ?_
  rotate_left
  · (intro w hSw; (try dsimp only at hSw); go_simp; (try with_reducible rfl))
  (try simp only [Act.put, List.setIfInBounds_toArray, List.set_cons_zero, List.set_cons_succ])
  refine wpAnyU_ready (rs := [5]) (by kernel_rfl) (by simp) ?_
  refine AllReadyU.cons (o := { dst := some 8, op := _, type := _, pos := _, after := _, guard := _ }) rfl (fun K hK => ?_) AllReadyU.nil
  go_simp
  refine (ref_time _ _).mono ?_; rintro e w1 ⟨rfl, hb1⟩; replace hE := hE.trans hb1; clear hb1
  try go_wp2_with fail
  refine hK.out _ _ ?_ (fun hHeld => ?_)
  · (try dsimp only); exact HS.out _ hE
  clear hK K
  (try simp only [Act.put, List.setIfInBounds_toArray, List.set_cons_zero, List.set_cons_succ])
  refine wpAnyU_ready (rs := [8]) (by kernel_rfl) (by simp) ?_
  refine AllReadyU.cons (o := { dst := some 11, op := _, type := _, pos := _, after := _, guard := _ }) rfl (fun K hK => ?_) AllReadyU.nil
  go_simp
  refine (ref_time _ _).mono ?_; rintro e w1 ⟨rfl, hb1⟩; replace hE := hE.trans hb1; clear hb1
  try go_wp2_with fail
  refine hK.out _ _ ?_ (fun hHeld => ?_)
  · (try dsimp only); exact HS.out _ hE
  clear hK K
  (try simp only [Act.put, List.setIfInBounds_toArray, List.set_cons_zero, List.set_cons_succ])
  refine wpAnyU_ready (rs := [11]) (by kernel_rfl) (by simp) ?_
  refine AllReadyU.cons (o := { dst := some 14, op := _, type := _, pos := _, after := _, guard := _ }) rfl (fun K hK => ?_) AllReadyU.nil
  go_simp
  refine (ref_time _ _).mono ?_; rintro e w1 ⟨rfl, hb1⟩; replace hE := hE.trans hb1; clear hb1
  try go_wp2_with fail
  refine hK.out _ _ ?_ (fun hHeld => ?_)
  · (try dsimp only); exact HS.out _ hE
  clear hK K
  (try simp only [Act.put, List.setIfInBounds_toArray, List.set_cons_zero, List.set_cons_succ])
  refine wpAnyU_ready (rs := [14]) (by kernel_rfl) (by simp) ?_
  refine AllReadyU.cons (o := { dst := some 17, op := _, type := _, pos := _, after := _, guard := _ }) rfl (fun K hK => ?_) AllReadyU.nil
  go_simp
  refine (ref_time _ _).mono ?_; rintro e w1 ⟨rfl, hb1⟩; replace hE := hE.trans hb1; clear hb1
  try go_wp2_with fail
  refine hK.out _ _ ?_ (fun hHeld => ?_)
  · (try dsimp only); exact HS.out _ hE
  clear hK K
  (try simp only [Act.put, List.setIfInBounds_toArray, List.set_cons_zero, List.set_cons_succ])
  refine wpAnyU_ready (rs := [17]) (by kernel_rfl) (by simp) ?_
  refine AllReadyU.cons (o := { dst := some 20, op := _, type := _, pos := _, after := _, guard := _ }) rfl (fun K hK => ?_) AllReadyU.nil
  go_simp
  refine (ref_time _ _).mono ?_; rintro e w1 ⟨rfl, hb1⟩; replace hE := hE.trans hb1; clear hb1
  try go_wp2_with fail
  refine hK.out _ _ ?_ (fun hHeld => ?_)
  · (try dsimp only); exact HS.out _ hE
  clear hK K
  (try simp only [Act.put, List.setIfInBounds_toArray, List.set_cons_zero, List.set_cons_succ])
  refine wpAnyU_ready (rs := [19]) (by kernel_rfl) (by simp) ?_
  refine AllReadyU.stop (o := { dst := none, op := _, type := _, pos := _, after := _, guard := _ }) rfl (by kernel_rfl) (fun K hK => ?_) AllReadyU.nil
  have HQ := Lib.hid (HA.out.ext hE); have hfz := HQ.out.frozen; have hcz := HQ.out.cell 6
  go_simp
  skip
  try go_wp2_with fail
  refine hK.out _ _ ?_ (fun hHeld => ?_)
  · (try dsimp only); (try trivial)
  clear hK K
  (try simp only [Act.put, List.setIfInBounds_toArray, List.set_cons_zero, List.set_cons_succ])
  refine wpAnyH_take (i := 20) (oi := { dst := some 22, op := _, type := _, pos := _, after := _, guard := _ }) (v := ?_) rfl (by kernel_rfl) (by kernel_rfl) (by kernel_rfl) (fun _ _ _ h => h) (Or.inl ⟨by rfl, ?_⟩) (by assumption) ?_
  rotate_left
  · (intro w hSw; (try dsimp only at hSw); go_simp; (try with_reducible rfl))
  (try simp only [Act.put, List.setIfInBounds_toArray, List.set_cons_zero, List.set_cons_succ])
  refine wpAnyH_ready (rs := [21]) (by kernel_rfl) (by simp) ?_
  refine AllReadyH.cons (o := { dst := none, op := _, type := _, pos := _, after := _, guard := _ }) rfl (fun K hK => ?_) AllReadyH.nil
  have hfz := (HQ.out.set_ 6 (.int .i64 (nmT p0))).frozen; have hcz := (HQ.out.set_ 6 (.int .i64 (nmT p0))).cell 7
  go_simp
  skip
  try go_wp2_with fail
  refine hK.out _ _ ?_ (fun hHeld => ?_)
  · (try dsimp only); (try trivial)
  clear hK K
  (try simp only [Act.put, List.setIfInBounds_toArray, List.set_cons_zero, List.set_cons_succ])
  refine wpAnyH_take (i := 22) (oi := { dst := some 23, op := _, type := _, pos := _, after := _, guard := _ }) (v := ?_) rfl (by kernel_rfl) (by kernel_rfl) (by kernel_rfl) (fun _ _ _ h => h) (Or.inl ⟨by rfl, ?_⟩) (by assumption) ?_
  rotate_left
  · (intro w hSw; (try dsimp only at hSw); go_simp; (try with_reducible rfl))
  (try simp only [Act.put, List.setIfInBounds_toArray, List.set_cons_zero, List.set_cons_succ])
  refine wpAnyH_ready (rs := [23]) (by kernel_rfl) (by simp) ?_
  refine AllReadyH.cons (o := { dst := none, op := _, type := _, pos := _, after := _, guard := _ }) rfl (fun K hK => ?_) AllReadyH.nil
  have hfz := ((HQ.out.set_ 6 (.int .i64 (nmT p0))).set_ 7 (.int .i64 (nmT p1))).frozen; have hcz := ((HQ.out.set_ 6 (.int .i64 (nmT p0))).set_ 7 (.int .i64 (nmT p1))).cell 8
  go_simp
  skip
  try go_wp2_with fail
  refine hK.out _ _ ?_ (fun hHeld => ?_)
  · (try dsimp only); (try trivial)
  clear hK K
  (try simp only [Act.put, List.setIfInBounds_toArray, List.set_cons_zero, List.set_cons_succ])
  refine wpAnyH_take (i := 24) (oi := { dst := some 24, op := _, type := _, pos := _, after := _, guard := _ }) (v := ?_) rfl (by kernel_rfl) (by kernel_rfl) (by kernel_rfl) (fun _ _ _ h => h) (Or.inl ⟨by rfl, ?_⟩) (by assumption) ?_
  rotate_left
  · (intro w hSw; (try dsimp only at hSw); go_simp; (try with_reducible rfl))
  (try simp only [Act.put, List.setIfInBounds_toArray, List.set_cons_zero, List.set_cons_succ])
  refine wpAnyH_ready (rs := [25]) (by kernel_rfl) (by simp) ?_
  refine AllReadyH.cons (o := { dst := none, op := _, type := _, pos := _, after := _, guard := _ }) rfl (fun K hK => ?_) AllReadyH.nil
  have hfz := (((HQ.out.set_ 6 (.int .i64 (nmT p0))).set_ 7 (.int .i64 (nmT p1))).set_ 8 (.int .i64 (nmT p2))).frozen; have hcz := (((HQ.out.set_ 6 (.int .i64 (nmT p0))).set_ 7 (.int .i64 (nmT p1))).set_ 8 (.int .i64 (nmT p2))).cell 9
  go_simp
  skip
  try go_wp2_with fail
  refine hK.out _ _ ?_ (fun hHeld => ?_)
  · (try dsimp only); (try trivial)
  clear hK K
  (try simp only [Act.put, List.setIfInBounds_toArray, List.set_cons_zero, List.set_cons_succ])
  refine wpAnyH_take (i := 26) (oi := { dst := some 25, op := _, type := _, pos := _, after := _, guard := _ }) (v := ?_) rfl (by kernel_rfl) (by kernel_rfl) (by kernel_rfl) (fun _ _ _ h => h) (Or.inl ⟨by rfl, ?_⟩) (by assumption) ?_
  rotate_left
  · (intro w hSw; (try dsimp only at hSw); go_simp; (try with_reducible rfl))
  (try simp only [Act.put, List.setIfInBounds_toArray, List.set_cons_zero, List.set_cons_succ])
  refine wpAnyH_ready (rs := [27]) (by kernel_rfl) (by simp) ?_
  refine AllReadyH.cons (o := { dst := none, op := _, type := _, pos := _, after := _, guard := _ }) rfl (fun K hK => ?_) AllReadyH.nil
  have hfz := ((((HQ.out.set_ 6 (.int .i64 (nmT p0))).set_ 7 (.int .i64 (nmT p1))).set_ 8 (.int .i64 (nmT p2))).set_ 9 (.int .i64 (nmT p3))).frozen; have hcz := ((((HQ.out.set_ 6 (.int .i64 (nmT p0))).set_ 7 (.int .i64 (nmT p1))).set_ 8 (.int .i64 (nmT p2))).set_ 9 (.int .i64 (nmT p3))).cell 10
  go_simp
  skip
  try go_wp2_with fail
  refine hK.out _ _ ?_ (fun hHeld => ?_)
  · (try dsimp only); (try trivial)
  clear hK K
  (try simp only [Act.put, List.setIfInBounds_toArray, List.set_cons_zero, List.set_cons_succ])
  refine wpAnyH_take (i := 28) (oi := { dst := some 26, op := _, type := _, pos := _, after := _, guard := _ }) (v := ?_) rfl (by kernel_rfl) (by kernel_rfl) (by kernel_rfl) (fun _ _ _ h => h) (Or.inl ⟨by rfl, ?_⟩) (by assumption) ?_
  rotate_left
  · (intro w hSw; (try dsimp only at hSw); go_simp; (try with_reducible rfl))
  (try simp only [Act.put, List.setIfInBounds_toArray, List.set_cons_zero, List.set_cons_succ])
  refine wpAnyH_ready (rs := [29]) (by kernel_rfl) (by simp) ?_
  refine AllReadyH.cons (o := { dst := none, op := _, type := _, pos := _, after := _, guard := _ }) rfl (fun K hK => ?_) AllReadyH.nil
  have hfz := (((((HQ.out.set_ 6 (.int .i64 (nmT p0))).set_ 7 (.int .i64 (nmT p1))).set_ 8 (.int .i64 (nmT p2))).set_ 9 (.int .i64 (nmT p3))).set_ 10 (.int .i64 (nmT p4))).frozen; have hcz := (((((HQ.out.set_ 6 (.int .i64 (nmT p0))).set_ 7 (.int .i64 (nmT p1))).set_ 8 (.int .i64 (nmT p2))).set_ 9 (.int .i64 (nmT p3))).set_ 10 (.int .i64 (nmT p4))).cell 11
  go_simp
  skip
  try go_wp2_with fail
  refine hK.out _ _ ?_ (fun hHeld => ?_)
  · (try dsimp only); (try trivial)
  clear hK K
  (try simp only [Act.put, List.setIfInBounds_toArray, List.set_cons_zero, List.set_cons_succ])
  refine wpAnyH_done (by kernel_rfl) ?_ _
  have hY := ((((((HQ.out.set_ 6 (.int .i64 (nmT p0))).set_ 7 (.int .i64 (nmT p1))).set_ 8 (.int .i64 (nmT p2))).set_ 9 (.int .i64 (nmT p3))).set_ 10 (.int .i64 (nmT p4))).set_ 11 (.int .i64 (nmT p5)))
  have hX := (((((((ExtB.refl w.heap.size w1).set_ 6 (.int .i64 (nmT p0))).set_ 7 (.int .i64 (nmT p1))).set_ 8 (.int .i64 (nmT p2))).set_ 9 (.int .i64 (nmT p3))).set_ 10 (.int .i64 (nmT p4))).set_ 11 (.int .i64 (nmT p5)))
  have HRr := Lib.hid ((HR.out.ext hE).grown hX (by simp))
  have HF := Lib.hid ((HEE.out.trans hE).growB hX (Nat.le_refl _))
  have hY : Blk _ w.heap.size 23 (dArr (nmD ⟨a0, a1, a2, a3, a4, a5, p0, p1, p2, p3, p4, p5⟩)) := hY
  go_wp2_with (first
    | (refine wpList_loadB rfl 23 (.tmp 1) rfl w.heap.size rfl 23 _ hY _ Tryd.underlying23 infoD ?_)
    | (refine wpList_storeB rfl 23 (.tmp 2) (.tmp 27) rfl rfl (w.heap.size + 1) _ rfl rfl 23 _ HRr.out infoD rfl (dArr_one (nmD ⟨a0, a1, a2, a3, a4, a5, p0, p1, p2, p3, p4, p5⟩)) ?_; intro w9 hB9 hx9))
  exact bodyPost_ret (v := .agg (dArr (nmD ⟨a0, a1, a2, a3, a4, a5, p0, p1, p2, p3, p4, p5⟩))) (results_cell_row rfl _ _ (w.heap.size + 1) 23 _ (0, 0) _ rfl hB9 Tryd.underlying23 rfl infoD) rfl ⟨rfl, HF.out.growB hx9 (by omega)⟩

set_option maxHeartbeats 40000000 in
set_option maxRecDepth 100000 in
theorem ref_Merge (x y : D) (w : World) : Calls Tryd.prog 11 #[.agg (dArr x), .agg (dArr y)] w fun e w' => e = .returned (.agg (dArr (mgD x y))) ∧ Ext w w' := by
  obtain ⟨a0, a1, a2, a3, a4, a5, p0, p1, p2, p3, p4, p5⟩ := x
  obtain ⟨c0, c1, c2, c3, c4, c5, q0, q1, q2, q3, q4, q5⟩ := y
  have hA := ((Blk.new w 23 (dArr ⟨a0, a1, a2, a3, a4, a5, p0, p1, p2, p3, p4, p5⟩)).alloc (.cells (dArr ⟨c0, c1, c2, c3, c4, c5, q0, q1, q2, q3, q4, q5⟩) 23)).alloc (.cells (dArr zeroD) 23)
  have hB := (Blk.new (w.alloc (.cells (dArr ⟨a0, a1, a2, a3, a4, a5, p0, p1, p2, p3, p4, p5⟩) 23)) 23 (dArr ⟨c0, c1, c2, c3, c4, c5, q0, q1, q2, q3, q4, q5⟩)).alloc (.cells (dArr zeroD) 23)
  have hR := Blk.new ((w.alloc (.cells (dArr ⟨a0, a1, a2, a3, a4, a5, p0, p1, p2, p3, p4, p5⟩) 23)).alloc (.cells (dArr ⟨c0, c1, c2, c3, c4, c5, q0, q1, q2, q3, q4, q5⟩) 23)) 23 (dArr zeroD)
  rw [World.size_alloc] at hB
  rw [World.size_alloc, World.size_alloc] at hR
  have hEE := (((Ext.refl w).alloc (.cells (dArr ⟨a0, a1, a2, a3, a4, a5, p0, p1, p2, p3, p4, p5⟩) 23)).alloc (.cells (dArr ⟨c0, c1, c2, c3, c4, c5, q0, q1, q2, q3, q4, q5⟩) 23)).alloc (.cells (dArr zeroD) 23)
  have HK := Lib.hid (⟨hA, hB, hR, hEE⟩ : _ ∧ _ ∧ _ ∧ _)
  clear hA hB hR hEE
  go_enter Tryd.func11, Tryd.ntmps11
  go_wp2_with fail
  obtain ⟨hA, hB, hR, hEE⟩ := HK.out
  clear HK
  change Blk (((w.alloc (.cells (dArr ⟨a0, a1, a2, a3, a4, a5, p0, p1, p2, p3, p4, p5⟩) 23)).alloc (.cells (dArr ⟨c0, c1, c2, c3, c4, c5, q0, q1, q2, q3, q4, q5⟩) 23)).alloc (.cells #[.bool false, .bool false, .bool false, .bool false, .bool false, .bool false, .int .i64 0, .int .i64 0, .int .i64 0, .int .i64 0, .int .i64 0, .int .i64 0] 23)) _ _ _ at hA
  change Blk (((w.alloc (.cells (dArr ⟨a0, a1, a2, a3, a4, a5, p0, p1, p2, p3, p4, p5⟩) 23)).alloc (.cells (dArr ⟨c0, c1, c2, c3, c4, c5, q0, q1, q2, q3, q4, q5⟩) 23)).alloc (.cells #[.bool false, .bool false, .bool false, .bool false, .bool false, .bool false, .int .i64 0, .int .i64 0, .int .i64 0, .int .i64 0, .int .i64 0, .int .i64 0] 23)) _ _ _ at hB
  change Blk (((w.alloc (.cells (dArr ⟨a0, a1, a2, a3, a4, a5, p0, p1, p2, p3, p4, p5⟩) 23)).alloc (.cells (dArr ⟨c0, c1, c2, c3, c4, c5, q0, q1, q2, q3, q4, q5⟩) 23)).alloc (.cells #[.bool false, .bool false, .bool false, .bool false, .bool false, .bool false, .int .i64 0, .int .i64 0, .int .i64 0, .int .i64 0, .int .i64 0, .int .i64 0] 23)) _ _ _ at hR
  change Ext w (((w.alloc (.cells (dArr ⟨a0, a1, a2, a3, a4, a5, p0, p1, p2, p3, p4, p5⟩) 23)).alloc (.cells (dArr ⟨c0, c1, c2, c3, c4, c5, q0, q1, q2, q3, q4, q5⟩) 23)).alloc (.cells #[.bool false, .bool false, .bool false, .bool false, .bool false, .bool false, .int .i64 0, .int .i64 0, .int .i64 0, .int .i64 0, .int .i64 0, .int .i64 0] 23)) at hEE
  generalize (((w.alloc (.cells (dArr ⟨a0, a1, a2, a3, a4, a5, p0, p1, p2, p3, p4, p5⟩) 23)).alloc (.cells (dArr ⟨c0, c1, c2, c3, c4, c5, q0, q1, q2, q3, q4, q5⟩) 23)).alloc (.cells #[.bool false, .bool false, .bool false, .bool false, .bool false, .bool false, .int .i64 0, .int .i64 0, .int .i64 0, .int .i64 0, .int .i64 0, .int .i64 0] 23)) = W0 at *
  have HA := Lib.hid hA; have HB := Lib.hid hB; have HR := Lib.hid hR; have HE := Lib.hid hEE
  clear hA hB hR hEE
  have n1 : w.heap.size ≠ w.heap.size + 1 := by omega
  have n2 : w.heap.size ≠ w.heap.size + 1 + 1 := by omega
  have n3 : w.heap.size + 1 ≠ w.heap.size + 1 + 1 := by omega
  have hE := (Ext.refl W0).drew
  refine wp_region_U (S := (fun w' => Blk w' w.heap.size 23 (dArr ⟨a0, a1, a2, a3, a4, a5, p0, p1, p2, p3, p4, p5⟩) ∧ Blk w' (w.heap.size + 1) 23 (dArr ⟨c0, c1, c2, c3, c4, c5, q0, q1, q2, q3, q4, q5⟩))) 4 (by kernel_rfl) ?_ (fun hHeld => ?_)
  · (try dsimp only); exact ⟨HA.out.ext hE, HB.out.ext hE⟩
  refine wpAnyU_take (i := 0) (oi := { dst := some 5, op := _, type := _, pos := _, after := _, guard := _ }) (v := .agg (dArr ⟨a0, a1, a2, a3, a4, a5, p0, p1, p2, p3, p4, p5⟩)) [1, 3, 4, 5] (by kernel_rfl) (by kernel_rfl) (by kernel_rfl) (by kernel_rfl) rfl (by kernel_rfl) (by kernel_rfl) (by kernel_rfl) (fun _ _ _ h => h) (yield_loadB rfl 23 (.tmp 2) rfl w.heap.size rfl 23 _ (fun w h => h.1) _ Tryd.underlying23 infoD) (by assumption) ?_
  (try simp only [Act.put, List.setIfInBounds_toArray, List.set_cons_zero, List.set_cons_succ])
  refine wpAnyU_take (i := 2) (oi := { dst := some 7, op := _, type := _, pos := _, after := _, guard := _ }) (v := .agg (dArr ⟨c0, c1, c2, c3, c4, c5, q0, q1, q2, q3, q4, q5⟩)) [3, 4, 5] (by kernel_rfl) (by kernel_rfl) (by kernel_rfl) (by kernel_rfl) rfl (by kernel_rfl) (by kernel_rfl) (by kernel_rfl) (fun _ _ _ h => h) (yield_loadB rfl 23 (.tmp 3) rfl (w.heap.size + 1) rfl 23 _ (fun w h => h.2) _ Tryd.underlying23 infoD) (by assumption) ?_
  (try simp only [Act.put, List.setIfInBounds_toArray, List.set_cons_zero, List.set_cons_succ])
  refine wpAnyU_ready (rs := [1]) (by kernel_rfl) (by simp) ?_
  refine AllReadyU.cons (o := { dst := some 6, op := _, type := _, pos := _, after := _, guard := _ }) rfl (fun K hK => ?_) AllReadyU.nil
  go_simp
  refine (ref_Normal ⟨a0, a1, a2, a3, a4, a5, p0, p1, p2, p3, p4, p5⟩ _).mono ?_; rintro e w1 ⟨rfl, hb1⟩; replace hE := hE.trans hb1; clear hb1
  try go_wp2_with fail
  refine hK.out _ _ ?_ (fun hHeld => ?_)
  · (try dsimp only); exact ⟨HA.out.ext hE, HB.out.ext hE⟩
  clear hK K
  (try simp only [Act.put, List.setIfInBounds_toArray, List.set_cons_zero, List.set_cons_succ])
  refine wpAnyU_ready (rs := [3]) (by kernel_rfl) (by simp) ?_
  refine AllReadyU.cons (o := { dst := some 8, op := _, type := _, pos := _, after := _, guard := _ }) rfl (fun K hK => ?_) AllReadyU.nil
  go_simp
  refine (ref_Normal ⟨c0, c1, c2, c3, c4, c5, q0, q1, q2, q3, q4, q5⟩ _).mono ?_; rintro e w1 ⟨rfl, hb1⟩; replace hE := hE.trans hb1; clear hb1
  try go_wp2_with fail
  refine hK.out _ _ ?_ (fun hHeld => ?_)
  · (try dsimp only); exact ⟨HA.out.ext hE, HB.out.ext hE⟩
  clear hK K
  (try simp only [Act.put, List.setIfInBounds_toArray, List.set_cons_zero, List.set_cons_succ])
  refine wpAnyU_ready (rs := [4]) (by kernel_rfl) (by simp) ?_
  refine AllReadyU.stop (o := { dst := none, op := _, type := _, pos := _, after := _, guard := _ }) rfl (by kernel_rfl) (fun K hK => ?_) AllReadyU.nil
  refine step_storeB rfl 23 (.tmp 2) (.tmp 6) rfl rfl w.heap.size _ rfl rfl 23 _ (HA.out.ext hE) infoD rfl (dArr_one (nmD ⟨a0, a1, a2, a3, a4, a5, p0, p1, p2, p3, p4, p5⟩)) ?_; intro w8 hB8 hx8
  refine hK.out _ _ ?_ (fun hHeld => ?_)
  · (try dsimp only); (try trivial)
  clear hK K
  (try simp only [Act.put, List.setIfInBounds_toArray, List.set_cons_zero, List.set_cons_succ])
  refine wpAnyH_ready (rs := [5]) (by kernel_rfl) (by simp) ?_
  refine AllReadyH.cons (o := { dst := none, op := _, type := _, pos := _, after := _, guard := _ }) rfl (fun K hK => ?_) AllReadyH.nil
  refine step_storeB rfl 23 (.tmp 3) (.tmp 8) rfl rfl (w.heap.size + 1) _ rfl rfl 23 _ ((HB.out.ext hE).grown hx8 (by simp)) infoD rfl (dArr_one (nmD ⟨c0, c1, c2, c3, c4, c5, q0, q1, q2, q3, q4, q5⟩)) ?_; intro w9 hB9 hx9
  refine hK.out _ _ ?_ (fun hHeld => ?_)
  · (try dsimp only); (try trivial)
  clear hK K
  (try simp only [Act.put, List.setIfInBounds_toArray, List.set_cons_zero, List.set_cons_succ])
  refine wpAnyH_done (by kernel_rfl) ?_ _
  have HA9 := Lib.hid (hB8.grown hx9 (by simp))
  have HB9 := Lib.hid hB9
  have HR9 := Lib.hid (((HR.out.ext hE).grown hx8 (by simp; omega)).grown hx9 (by simp))
  have HE9 := Lib.hid (((HE.out.trans hE).growB hx8 (Nat.le_refl _)).growB hx9 (by omega))
  clear hB8 hx8 hB9 hx9 hE HA HB HR HE hHeld
  go_wp2_with fail
  have HS := Lib.hid (show ∀ w', Ext w9 w' → ((w'.cell? ⟨w.heap.size, 0, none⟩ = some (.bool a0) ∧ w'.cell? ⟨w.heap.size, 1, none⟩ = some (.bool a1) ∧ w'.cell? ⟨w.heap.size, 2, none⟩ = some (.bool a2) ∧ w'.cell? ⟨w.heap.size, 3, none⟩ = some (.bool a3) ∧ w'.cell? ⟨w.heap.size, 4, none⟩ = some (.bool a4) ∧ w'.cell? ⟨w.heap.size, 5, none⟩ = some (.bool a5) ∧ w'.cell? ⟨w.heap.size, 6, none⟩ = some (.int .i64 (nmT p0)) ∧ w'.cell? ⟨w.heap.size, 7, none⟩ = some (.int .i64 (nmT p1)) ∧ w'.cell? ⟨w.heap.size, 8, none⟩ = some (.int .i64 (nmT p2)) ∧ w'.cell? ⟨w.heap.size, 9, none⟩ = some (.int .i64 (nmT p3)) ∧ w'.cell? ⟨w.heap.size, 10, none⟩ = some (.int .i64 (nmT p4)) ∧ w'.cell? ⟨w.heap.size, 11, none⟩ = some (.int .i64 (nmT p5))) ∧ (w'.cell? ⟨w.heap.size + 1, 0, none⟩ = some (.bool c0) ∧ w'.cell? ⟨w.heap.size + 1, 1, none⟩ = some (.bool c1) ∧ w'.cell? ⟨w.heap.size + 1, 2, none⟩ = some (.bool c2) ∧ w'.cell? ⟨w.heap.size + 1, 3, none⟩ = some (.bool c3) ∧ w'.cell? ⟨w.heap.size + 1, 4, none⟩ = some (.bool c4) ∧ w'.cell? ⟨w.heap.size + 1, 5, none⟩ = some (.bool c5) ∧ w'.cell? ⟨w.heap.size + 1, 6, none⟩ = some (.int .i64 (nmT q0)) ∧ w'.cell? ⟨w.heap.size + 1, 7, none⟩ = some (.int .i64 (nmT q1)) ∧ w'.cell? ⟨w.heap.size + 1, 8, none⟩ = some (.int .i64 (nmT q2)) ∧ w'.cell? ⟨w.heap.size + 1, 9, none⟩ = some (.int .i64 (nmT q3)) ∧ w'.cell? ⟨w.heap.size + 1, 10, none⟩ = some (.int .i64 (nmT q4)) ∧ w'.cell? ⟨w.heap.size + 1, 11, none⟩ = some (.int .i64 (nmT q5)))) from fun w' h => ⟨⟨(HA9.out.ext h).cell 0, (HA9.out.ext h).cell 1, (HA9.out.ext h).cell 2, (HA9.out.ext h).cell 3, (HA9.out.ext h).cell 4, (HA9.out.ext h).cell 5, (HA9.out.ext h).cell 6, (HA9.out.ext h).cell 7, (HA9.out.ext h).cell 8, (HA9.out.ext h).cell 9, (HA9.out.ext h).cell 10, (HA9.out.ext h).cell 11⟩, ⟨(HB9.out.ext h).cell 0, (HB9.out.ext h).cell 1, (HB9.out.ext h).cell 2, (HB9.out.ext h).cell 3, (HB9.out.ext h).cell 4, (HB9.out.ext h).cell 5, (HB9.out.ext h).cell 6, (HB9.out.ext h).cell 7, (HB9.out.ext h).cell 8, (HB9.out.ext h).cell 9, (HB9.out.ext h).cell 10, (HB9.out.ext h).cell 11⟩⟩)
  have hE := (Ext.refl w9).drew
  refine wp_region_held_drew (S := (fun w' => (w'.cell? ⟨w.heap.size, 0, none⟩ = some (.bool a0) ∧ w'.cell? ⟨w.heap.size, 1, none⟩ = some (.bool a1) ∧ w'.cell? ⟨w.heap.size, 2, none⟩ = some (.bool a2) ∧ w'.cell? ⟨w.heap.size, 3, none⟩ = some (.bool a3) ∧ w'.cell? ⟨w.heap.size, 4, none⟩ = some (.bool a4) ∧ w'.cell? ⟨w.heap.size, 5, none⟩ = some (.bool a5) ∧ w'.cell? ⟨w.heap.size, 6, none⟩ = some (.int .i64 (nmT p0)) ∧ w'.cell? ⟨w.heap.size, 7, none⟩ = some (.int .i64 (nmT p1)) ∧ w'.cell? ⟨w.heap.size, 8, none⟩ = some (.int .i64 (nmT p2)) ∧ w'.cell? ⟨w.heap.size, 9, none⟩ = some (.int .i64 (nmT p3)) ∧ w'.cell? ⟨w.heap.size, 10, none⟩ = some (.int .i64 (nmT p4)) ∧ w'.cell? ⟨w.heap.size, 11, none⟩ = some (.int .i64 (nmT p5))) ∧ (w'.cell? ⟨w.heap.size + 1, 0, none⟩ = some (.bool c0) ∧ w'.cell? ⟨w.heap.size + 1, 1, none⟩ = some (.bool c1) ∧ w'.cell? ⟨w.heap.size + 1, 2, none⟩ = some (.bool c2) ∧ w'.cell? ⟨w.heap.size + 1, 3, none⟩ = some (.bool c3) ∧ w'.cell? ⟨w.heap.size + 1, 4, none⟩ = some (.bool c4) ∧ w'.cell? ⟨w.heap.size + 1, 5, none⟩ = some (.bool c5) ∧ w'.cell? ⟨w.heap.size + 1, 6, none⟩ = some (.int .i64 (nmT q0)) ∧ w'.cell? ⟨w.heap.size + 1, 7, none⟩ = some (.int .i64 (nmT q1)) ∧ w'.cell? ⟨w.heap.size + 1, 8, none⟩ = some (.int .i64 (nmT q2)) ∧ w'.cell? ⟨w.heap.size + 1, 9, none⟩ = some (.int .i64 (nmT q3)) ∧ w'.cell? ⟨w.heap.size + 1, 10, none⟩ = some (.int .i64 (nmT q4)) ∧ w'.cell? ⟨w.heap.size + 1, 11, none⟩ = some (.int .i64 (nmT q5))))) (by kernel_rfl) ?_ (fun hHeld => ?_)
  · (try dsimp only); exact HS.out _ hE
  refine wpAnyH_take (i := 0) (oi := { dst := some 9, op := _, type := _, pos := _, after := _, guard := _ }) (v := ?_) rfl (by kernel_rfl) (by kernel_rfl) (by kernel_rfl) (fun _ _ _ h => h) (Or.inl ⟨by rfl, ?_⟩) (by assumption) ?_
  rotate_left
  · (intro w hSw; (try dsimp only at hSw); go_simp; (try with_reducible rfl))
  (try simp only [Act.put, List.setIfInBounds_toArray, List.set_cons_zero, List.set_cons_succ])
  refine wpAnyH_take (i := 1) (oi := { dst := some 10, op := _, type := _, pos := _, after := _, guard := _ }) (v := ?_) rfl (by kernel_rfl) (by kernel_rfl) (by kernel_rfl) (fun _ _ _ h => h) (Or.inl ⟨by rfl, ?_⟩) (by assumption) ?_
  rotate_left
  · (intro w hSw; (try dsimp only at hSw); go_simp; (try with_reducible rfl))
  (try simp only [Act.put, List.setIfInBounds_toArray, List.set_cons_zero, List.set_cons_succ])
  refine wpAnyH_take (i := 2) (oi := { dst := some 11, op := _, type := _, pos := _, after := _, guard := _ }) (v := ?_) rfl (by kernel_rfl) (by kernel_rfl) (by kernel_rfl) (fun _ _ _ h => h) (Or.inl ⟨by rfl, ?_⟩) (by assumption) ?_
  rotate_left
  · (intro w hSw; (try dsimp only at hSw); go_simp; (try with_reducible rfl))
  (try simp only [Act.put, List.setIfInBounds_toArray, List.set_cons_zero, List.set_cons_succ])
  refine wpAnyH_take (i := 3) (oi := { dst := some 12, op := _, type := _, pos := _, after := _, guard := _ }) (v := bif a0 then undef else (.pointer (some ⟨w.heap.size + 1, 0, none⟩))) rfl (by kernel_rfl) (by kernel_rfl) (by kernel_rfl) (fun _ _ _ h => h) ?_ (by assumption) ?_
  · cases a0
    · exact Or.inl ⟨by rfl, by (intro w hSw; (try dsimp only at hSw); go_simp; (try with_reducible rfl))⟩
    · exact Or.inr ⟨by rfl, by rfl⟩
  (try simp only [Act.put, List.setIfInBounds_toArray, List.set_cons_zero, List.set_cons_succ])
  refine wpAnyH_take (i := 4) (oi := { dst := some 13, op := _, type := _, pos := _, after := _, guard := _ }) (v := bif a0 then undef else (.bool c0)) rfl (by kernel_rfl) (by kernel_rfl) (by kernel_rfl) (fun _ _ _ h => h) ?_ (by assumption) ?_
  · cases a0
    · exact Or.inl ⟨by rfl, by (intro w hSw; (try dsimp only at hSw); go_simp; (try with_reducible rfl))⟩
    · exact Or.inr ⟨by rfl, by rfl⟩
  (try simp only [Act.put, List.setIfInBounds_toArray, List.set_cons_zero, List.set_cons_succ])
  refine wpAnyH_take (i := 5) (oi := { dst := some 14, op := _, type := _, pos := _, after := _, guard := _ }) (v := .bool (a0 || c0)) rfl (by kernel_rfl) (by kernel_rfl) (by kernel_rfl) (fun _ _ _ h => h) ?_ (by assumption) ?_
  · cases a0
    · exact Or.inl ⟨by rfl, by (intro w hSw; (try dsimp only at hSw); go_simp; (try with_reducible rfl))⟩
    · exact Or.inl ⟨by rfl, by (intro w hSw; (try dsimp only at hSw); go_simp; (try with_reducible rfl))⟩
  (try simp only [Act.put, List.setIfInBounds_toArray, List.set_cons_zero, List.set_cons_succ])
  refine wpAnyH_take (i := 6) (oi := { dst := some 15, op := _, type := _, pos := _, after := _, guard := _ }) (v := ?_) rfl (by kernel_rfl) (by kernel_rfl) (by kernel_rfl) (fun _ _ _ h => h) (Or.inl ⟨by rfl, ?_⟩) (by assumption) ?_
  rotate_left
  · (intro w hSw; (try dsimp only at hSw); go_simp; (try with_reducible rfl))
  (try simp only [Act.put, List.setIfInBounds_toArray, List.set_cons_zero, List.set_cons_succ])
  refine wpAnyH_take (i := 7) (oi := { dst := some 16, op := _, type := _, pos := _, after := _, guard := _ }) (v := ?_) rfl (by kernel_rfl) (by kernel_rfl) (by kernel_rfl) (fun _ _ _ h => h) (Or.inl ⟨by rfl, ?_⟩) (by assumption) ?_
  rotate_left
  · (intro w hSw; (try dsimp only at hSw); go_simp; (try with_reducible rfl))
  (try simp only [Act.put, List.setIfInBounds_toArray, List.set_cons_zero, List.set_cons_succ])
  refine wpAnyH_take (i := 8) (oi := { dst := some 17, op := _, type := _, pos := _, after := _, guard := _ }) (v := ?_) rfl (by kernel_rfl) (by kernel_rfl) (by kernel_rfl) (fun _ _ _ h => h) (Or.inl ⟨by rfl, ?_⟩) (by assumption) ?_
  rotate_left
  · (intro w hSw; (try dsimp only at hSw); go_simp; (try with_reducible rfl))
  (try simp only [Act.put, List.setIfInBounds_toArray, List.set_cons_zero, List.set_cons_succ])
  refine wpAnyH_take (i := 9) (oi := { dst := some 18, op := _, type := _, pos := _, after := _, guard := _ }) (v := bif a1 then undef else (.pointer (some ⟨w.heap.size + 1, 1, none⟩))) rfl (by kernel_rfl) (by kernel_rfl) (by kernel_rfl) (fun _ _ _ h => h) ?_ (by assumption) ?_
  · cases a1
    · exact Or.inl ⟨by rfl, by (intro w hSw; (try dsimp only at hSw); go_simp; (try with_reducible rfl))⟩
    · exact Or.inr ⟨by rfl, by rfl⟩
  (try simp only [Act.put, List.setIfInBounds_toArray, List.set_cons_zero, List.set_cons_succ])
  refine wpAnyH_take (i := 10) (oi := { dst := some 19, op := _, type := _, pos := _, after := _, guard := _ }) (v := bif a1 then undef else (.bool c1)) rfl (by kernel_rfl) (by kernel_rfl) (by kernel_rfl) (fun _ _ _ h => h) ?_ (by assumption) ?_
  · cases a1
    · exact Or.inl ⟨by rfl, by (intro w hSw; (try dsimp only at hSw); go_simp; (try with_reducible rfl))⟩
    · exact Or.inr ⟨by rfl, by rfl⟩
  (try simp only [Act.put, List.setIfInBounds_toArray, List.set_cons_zero, List.set_cons_succ])
  refine wpAnyH_take (i := 11) (oi := { dst := some 20, op := _, type := _, pos := _, after := _, guard := _ }) (v := .bool (a1 || c1)) rfl (by kernel_rfl) (by kernel_rfl) (by kernel_rfl) (fun _ _ _ h => h) ?_ (by assumption) ?_
  · cases a1
    · exact Or.inl ⟨by rfl, by (intro w hSw; (try dsimp only at hSw); go_simp; (try with_reducible rfl))⟩
    · exact Or.inl ⟨by rfl, by (intro w hSw; (try dsimp only at hSw); go_simp; (try with_reducible rfl))⟩
  (try simp only [Act.put, List.setIfInBounds_toArray, List.set_cons_zero, List.set_cons_succ])
  refine wpAnyH_take (i := 12) (oi := { dst := some 21, op := _, type := _, pos := _, after := _, guard := _ }) (v := ?_) rfl (by kernel_rfl) (by kernel_rfl) (by kernel_rfl) (fun _ _ _ h => h) (Or.inl ⟨by rfl, ?_⟩) (by assumption) ?_
  rotate_left
  · (intro w hSw; (try dsimp only at hSw); go_simp; (try with_reducible rfl))
  (try simp only [Act.put, List.setIfInBounds_toArray, List.set_cons_zero, List.set_cons_succ])
  refine wpAnyH_take (i := 13) (oi := { dst := some 22, op := _, type := _, pos := _, after := _, guard := _ }) (v := ?_) rfl (by kernel_rfl) (by kernel_rfl) (by kernel_rfl) (fun _ _ _ h => h) (Or.inl ⟨by rfl, ?_⟩) (by assumption) ?_
  rotate_left
  · (intro w hSw; (try dsimp only at hSw); go_simp; (try with_reducible rfl))
  (try simp only [Act.put, List.setIfInBounds_toArray, List.set_cons_zero, List.set_cons_succ])
  refine wpAnyH_take (i := 14) (oi := { dst := some 23, op := _, type := _, pos := _, after := _, guard := _ }) (v := ?_) rfl (by kernel_rfl) (by kernel_rfl) (by kernel_rfl) (fun _ _ _ h => h) (Or.inl ⟨by rfl, ?_⟩) (by assumption) ?_
  rotate_left
  · (intro w hSw; (try dsimp only at hSw); go_simp; (try with_reducible rfl))
  (try simp only [Act.put, List.setIfInBounds_toArray, List.set_cons_zero, List.set_cons_succ])
  refine wpAnyH_take (i := 15) (oi := { dst := some 24, op := _, type := _, pos := _, after := _, guard := _ }) (v := bif a2 then undef else (.pointer (some ⟨w.heap.size + 1, 2, none⟩))) rfl (by kernel_rfl) (by kernel_rfl) (by kernel_rfl) (fun _ _ _ h => h) ?_ (by assumption) ?_
  · cases a2
    · exact Or.inl ⟨by rfl, by (intro w hSw; (try dsimp only at hSw); go_simp; (try with_reducible rfl))⟩
    · exact Or.inr ⟨by rfl, by rfl⟩
  (try simp only [Act.put, List.setIfInBounds_toArray, List.set_cons_zero, List.set_cons_succ])
  refine wpAnyH_take (i := 16) (oi := { dst := some 25, op := _, type := _, pos := _, after := _, guard := _ }) (v := bif a2 then undef else (.bool c2)) rfl (by kernel_rfl) (by kernel_rfl) (by kernel_rfl) (fun _ _ _ h => h) ?_ (by assumption) ?_
  · cases a2
    · exact Or.inl ⟨by rfl, by (intro w hSw; (try dsimp only at hSw); go_simp; (try with_reducible rfl))⟩
    · exact Or.inr ⟨by rfl, by rfl⟩
  (try simp only [Act.put, List.setIfInBounds_toArray, List.set_cons_zero, List.set_cons_succ])
  refine wpAnyH_take (i := 17) (oi := { dst := some 26, op := _, type := _, pos := _, after := _, guard := _ }) (v := .bool (a2 || c2)) rfl (by kernel_rfl) (by kernel_rfl) (by kernel_rfl) (fun _ _ _ h => h) ?_ (by assumption) ?_
  · cases a2
    · exact Or.inl ⟨by rfl, by (intro w hSw; (try dsimp only at hSw); go_simp; (try with_reducible rfl))⟩
    · exact Or.inl ⟨by rfl, by (intro w hSw; (try dsimp only at hSw); go_simp; (try with_reducible rfl))⟩
  (try simp only [Act.put, List.setIfInBounds_toArray, List.set_cons_zero, List.set_cons_succ])
  refine wpAnyH_take (i := 18) (oi := { dst := some 27, op := _, type := _, pos := _, after := _, guard := _ }) (v := ?_) rfl (by kernel_rfl) (by kernel_rfl) (by kernel_rfl) (fun _ _ _ h => h) (Or.inl ⟨by rfl, ?_⟩) (by assumption) ?_
  rotate_left
  · (intro w hSw; (try dsimp only at hSw); go_simp; (try with_reducible rfl))
  (try simp only [Act.put, List.setIfInBounds_toArray, List.set_cons_zero, List.set_cons_succ])
  refine wpAnyH_take (i := 19) (oi := { dst := some 28, op := _, type := _, pos := _, after := _, guard := _ }) (v := ?_) rfl (by kernel_rfl) (by kernel_rfl) (by kernel_rfl) (fun _ _ _ h => h) (Or.inl ⟨by rfl, ?_⟩) (by assumption) ?_
  rotate_left
  · (intro w hSw; (try dsimp only at hSw); go_simp; (try with_reducible rfl))
  (try simp only [Act.put, List.setIfInBounds_toArray, List.set_cons_zero, List.set_cons_succ])
  refine wpAnyH_take (i := 20) (oi := { dst := some 29, op := _, type := _, pos := _, after := _, guard := _ }) (v := ?_) rfl (by kernel_rfl) (by kernel_rfl) (by kernel_rfl) (fun _ _ _ h => h) (Or.inl ⟨by rfl, ?_⟩) (by assumption) ?_
  rotate_left
  · (intro w hSw; (try dsimp only at hSw); go_simp; (try with_reducible rfl))
  (try simp only [Act.put, List.setIfInBounds_toArray, List.set_cons_zero, List.set_cons_succ])
  refine wpAnyH_take (i := 21) (oi := { dst := some 30, op := _, type := _, pos := _, after := _, guard := _ }) (v := bif a3 then (.pointer (some ⟨w.heap.size + 1, 3, none⟩)) else undef) rfl (by kernel_rfl) (by kernel_rfl) (by kernel_rfl) (fun _ _ _ h => h) ?_ (by assumption) ?_
  · cases a3
    · exact Or.inr ⟨by rfl, by rfl⟩
    · exact Or.inl ⟨by rfl, by (intro w hSw; (try dsimp only at hSw); go_simp; (try with_reducible rfl))⟩
  (try simp only [Act.put, List.setIfInBounds_toArray, List.set_cons_zero, List.set_cons_succ])
  refine wpAnyH_take (i := 22) (oi := { dst := some 31, op := _, type := _, pos := _, after := _, guard := _ }) (v := bif a3 then (.bool c3) else undef) rfl (by kernel_rfl) (by kernel_rfl) (by kernel_rfl) (fun _ _ _ h => h) ?_ (by assumption) ?_
  · cases a3
    · exact Or.inr ⟨by rfl, by rfl⟩
    · exact Or.inl ⟨by rfl, by (intro w hSw; (try dsimp only at hSw); go_simp; (try with_reducible rfl))⟩
  (try simp only [Act.put, List.setIfInBounds_toArray, List.set_cons_zero, List.set_cons_succ])
  refine wpAnyH_take (i := 23) (oi := { dst := some 32, op := _, type := _, pos := _, after := _, guard := _ }) (v := .bool (a3 && c3)) rfl (by kernel_rfl) (by kernel_rfl) (by kernel_rfl) (fun _ _ _ h => h) ?_ (by assumption) ?_
  · cases a3
    · exact Or.inl ⟨by rfl, by (intro w hSw; (try dsimp only at hSw); go_simp; (try with_reducible rfl))⟩
    · exact Or.inl ⟨by rfl, by (intro w hSw; (try dsimp only at hSw); go_simp; (try with_reducible rfl))⟩
  (try simp only [Act.put, List.setIfInBounds_toArray, List.set_cons_zero, List.set_cons_succ])
  refine wpAnyH_take (i := 24) (oi := { dst := some 33, op := _, type := _, pos := _, after := _, guard := _ }) (v := ?_) rfl (by kernel_rfl) (by kernel_rfl) (by kernel_rfl) (fun _ _ _ h => h) (Or.inl ⟨by rfl, ?_⟩) (by assumption) ?_
  rotate_left
  · (intro w hSw; (try dsimp only at hSw); go_simp; (try with_reducible rfl))
  (try simp only [Act.put, List.setIfInBounds_toArray, List.set_cons_zero, List.set_cons_succ])
  refine wpAnyH_take (i := 25) (oi := { dst := some 34, op := _, type := _, pos := _, after := _, guard := _ }) (v := ?_) rfl (by kernel_rfl) (by kernel_rfl) (by kernel_rfl) (fun _ _ _ h => h) (Or.inl ⟨by rfl, ?_⟩) (by assumption) ?_
  rotate_left
  · (intro w hSw; (try dsimp only at hSw); go_simp; (try with_reducible rfl))
  (try simp only [Act.put, List.setIfInBounds_toArray, List.set_cons_zero, List.set_cons_succ])
  refine wpAnyH_take (i := 26) (oi := { dst := some 35, op := _, type := _, pos := _, after := _, guard := _ }) (v := ?_) rfl (by kernel_rfl) (by kernel_rfl) (by kernel_rfl) (fun _ _ _ h => h) (Or.inl ⟨by rfl, ?_⟩) (by assumption) ?_
  rotate_left
  · (intro w hSw; (try dsimp only at hSw); go_simp; (try with_reducible rfl))
  (try simp only [Act.put, List.setIfInBounds_toArray, List.set_cons_zero, List.set_cons_succ])
  refine wpAnyH_take (i := 27) (oi := { dst := some 36, op := _, type := _, pos := _, after := _, guard := _ }) (v := bif a4 then undef else (.pointer (some ⟨w.heap.size + 1, 4, none⟩))) rfl (by kernel_rfl) (by kernel_rfl) (by kernel_rfl) (fun _ _ _ h => h) ?_ (by assumption) ?_
  · cases a4
    · exact Or.inl ⟨by rfl, by (intro w hSw; (try dsimp only at hSw); go_simp; (try with_reducible rfl))⟩
    · exact Or.inr ⟨by rfl, by rfl⟩
  (try simp only [Act.put, List.setIfInBounds_toArray, List.set_cons_zero, List.set_cons_succ])
  refine wpAnyH_take (i := 28) (oi := { dst := some 37, op := _, type := _, pos := _, after := _, guard := _ }) (v := bif a4 then undef else (.bool c4)) rfl (by kernel_rfl) (by kernel_rfl) (by kernel_rfl) (fun _ _ _ h => h) ?_ (by assumption) ?_
  · cases a4
    · exact Or.inl ⟨by rfl, by (intro w hSw; (try dsimp only at hSw); go_simp; (try with_reducible rfl))⟩
    · exact Or.inr ⟨by rfl, by rfl⟩
  (try simp only [Act.put, List.setIfInBounds_toArray, List.set_cons_zero, List.set_cons_succ])
  refine wpAnyH_take (i := 29) (oi := { dst := some 38, op := _, type := _, pos := _, after := _, guard := _ }) (v := .bool (a4 || c4)) rfl (by kernel_rfl) (by kernel_rfl) (by kernel_rfl) (fun _ _ _ h => h) ?_ (by assumption) ?_
  · cases a4
    · exact Or.inl ⟨by rfl, by (intro w hSw; (try dsimp only at hSw); go_simp; (try with_reducible rfl))⟩
    · exact Or.inl ⟨by rfl, by (intro w hSw; (try dsimp only at hSw); go_simp; (try with_reducible rfl))⟩
  (try simp only [Act.put, List.setIfInBounds_toArray, List.set_cons_zero, List.set_cons_succ])
  refine wpAnyH_take (i := 30) (oi := { dst := some 39, op := _, type := _, pos := _, after := _, guard := _ }) (v := ?_) rfl (by kernel_rfl) (by kernel_rfl) (by kernel_rfl) (fun _ _ _ h => h) (Or.inl ⟨by rfl, ?_⟩) (by assumption) ?_
  rotate_left
  · (intro w hSw; (try dsimp only at hSw); go_simp; (try with_reducible rfl))
  (try simp only [Act.put, List.setIfInBounds_toArray, List.set_cons_zero, List.set_cons_succ])
  refine wpAnyH_take (i := 31) (oi := { dst := some 40, op := _, type := _, pos := _, after := _, guard := _ }) (v := ?_) rfl (by kernel_rfl) (by kernel_rfl) (by kernel_rfl) (fun _ _ _ h => h) (Or.inl ⟨by rfl, ?_⟩) (by assumption) ?_
  rotate_left
  · (intro w hSw; (try dsimp only at hSw); go_simp; (try with_reducible rfl))
  (try simp only [Act.put, List.setIfInBounds_toArray, List.set_cons_zero, List.set_cons_succ])
  refine wpAnyH_take (i := 32) (oi := { dst := some 41, op := _, type := _, pos := _, after := _, guard := _ }) (v := ?_) rfl (by kernel_rfl) (by kernel_rfl) (by kernel_rfl) (fun _ _ _ h => h) (Or.inl ⟨by rfl, ?_⟩) (by assumption) ?_
  rotate_left
  · (intro w hSw; (try dsimp only at hSw); go_simp; (try with_reducible rfl))
  (try simp only [Act.put, List.setIfInBounds_toArray, List.set_cons_zero, List.set_cons_succ])
  refine wpAnyH_take (i := 33) (oi := { dst := some 42, op := _, type := _, pos := _, after := _, guard := _ }) (v := bif a5 then undef else (.pointer (some ⟨w.heap.size + 1, 5, none⟩))) rfl (by kernel_rfl) (by kernel_rfl) (by kernel_rfl) (fun _ _ _ h => h) ?_ (by assumption) ?_
  · cases a5
    · exact Or.inl ⟨by rfl, by (intro w hSw; (try dsimp only at hSw); go_simp; (try with_reducible rfl))⟩
    · exact Or.inr ⟨by rfl, by rfl⟩
  (try simp only [Act.put, List.setIfInBounds_toArray, List.set_cons_zero, List.set_cons_succ])
  refine wpAnyH_take (i := 34) (oi := { dst := some 43, op := _, type := _, pos := _, after := _, guard := _ }) (v := bif a5 then undef else (.bool c5)) rfl (by kernel_rfl) (by kernel_rfl) (by kernel_rfl) (fun _ _ _ h => h) ?_ (by assumption) ?_
  · cases a5
    · exact Or.inl ⟨by rfl, by (intro w hSw; (try dsimp only at hSw); go_simp; (try with_reducible rfl))⟩
    · exact Or.inr ⟨by rfl, by rfl⟩
  (try simp only [Act.put, List.setIfInBounds_toArray, List.set_cons_zero, List.set_cons_succ])
  refine wpAnyH_take (i := 35) (oi := { dst := some 44, op := _, type := _, pos := _, after := _, guard := _ }) (v := .bool (a5 || c5)) rfl (by kernel_rfl) (by kernel_rfl) (by kernel_rfl) (fun _ _ _ h => h) ?_ (by assumption) ?_
  · cases a5
    · exact Or.inl ⟨by rfl, by (intro w hSw; (try dsimp only at hSw); go_simp; (try with_reducible rfl))⟩
    · exact Or.inl ⟨by rfl, by (intro w hSw; (try dsimp only at hSw); go_simp; (try with_reducible rfl))⟩
  (try simp only [Act.put, List.setIfInBounds_toArray, List.set_cons_zero, List.set_cons_succ])
  refine wpAnyH_take (i := 36) (oi := { dst := some 45, op := _, type := _, pos := _, after := _, guard := _ }) (v := ?_) rfl (by kernel_rfl) (by kernel_rfl) (by kernel_rfl) (fun _ _ _ h => h) (Or.inl ⟨by rfl, ?_⟩) (by assumption) ?_
  rotate_left
  · (intro w hSw; (try dsimp only at hSw); go_simp; (try with_reducible rfl))
  (try simp only [Act.put, List.setIfInBounds_toArray, List.set_cons_zero, List.set_cons_succ])
  refine wpAnyH_take (i := 37) (oi := { dst := some 46, op := _, type := _, pos := _, after := _, guard := _ }) (v := ?_) rfl (by kernel_rfl) (by kernel_rfl) (by kernel_rfl) (fun _ _ _ h => h) (Or.inl ⟨by rfl, ?_⟩) (by assumption) ?_
  rotate_left
  · (intro w hSw; (try dsimp only at hSw); go_simp; (try with_reducible rfl))
  (try simp only [Act.put, List.setIfInBounds_toArray, List.set_cons_zero, List.set_cons_succ])
  refine wpAnyH_take (i := 38) (oi := { dst := some 47, op := _, type := _, pos := _, after := _, guard := _ }) (v := ?_) rfl (by kernel_rfl) (by kernel_rfl) (by kernel_rfl) (fun _ _ _ h => h) (Or.inl ⟨by rfl, ?_⟩) (by assumption) ?_
  rotate_left
  · (intro w hSw; (try dsimp only at hSw); go_simp; (try with_reducible rfl))
  (try simp only [Act.put, List.setIfInBounds_toArray, List.set_cons_zero, List.set_cons_succ])
  refine wpAnyH_take (i := 39) (oi := { dst := some 48, op := _, type := _, pos := _, after := _, guard := _ }) (v := ?_) rfl (by kernel_rfl) (by kernel_rfl) (by kernel_rfl) (fun _ _ _ h => h) (Or.inl ⟨by rfl, ?_⟩) (by assumption) ?_
  rotate_left
  · (intro w hSw; (try dsimp only at hSw); go_simp; (try with_reducible rfl))
  (try simp only [Act.put, List.setIfInBounds_toArray, List.set_cons_zero, List.set_cons_succ])
  refine wpAnyH_take (i := 41) (oi := { dst := some 50, op := _, type := _, pos := _, after := _, guard := _ }) (v := ?_) rfl (by kernel_rfl) (by kernel_rfl) (by kernel_rfl) (fun _ _ _ h => h) (Or.inl ⟨by rfl, ?_⟩) (by assumption) ?_
  rotate_left
  · (intro w hSw; (try dsimp only at hSw); go_simp; (try with_reducible rfl))
  (try simp only [Act.put, List.setIfInBounds_toArray, List.set_cons_zero, List.set_cons_succ])
  refine wpAnyH_take (i := 42) (oi := { dst := some 51, op := _, type := _, pos := _, after := _, guard := _ }) (v := ?_) rfl (by kernel_rfl) (by kernel_rfl) (by kernel_rfl) (fun _ _ _ h => h) (Or.inl ⟨by rfl, ?_⟩) (by assumption) ?_
  rotate_left
  · (intro w hSw; (try dsimp only at hSw); go_simp; (try with_reducible rfl))
  (try simp only [Act.put, List.setIfInBounds_toArray, List.set_cons_zero, List.set_cons_succ])
  refine wpAnyH_take (i := 43) (oi := { dst := some 52, op := _, type := _, pos := _, after := _, guard := _ }) (v := ?_) rfl (by kernel_rfl) (by kernel_rfl) (by kernel_rfl) (fun _ _ _ h => h) (Or.inl ⟨by rfl, ?_⟩) (by assumption) ?_
  rotate_left
  · (intro w hSw; (try dsimp only at hSw); go_simp; (try with_reducible rfl))
  (try simp only [Act.put, List.setIfInBounds_toArray, List.set_cons_zero, List.set_cons_succ])
  refine wpAnyH_take (i := 44) (oi := { dst := some 53, op := _, type := _, pos := _, after := _, guard := _ }) (v := ?_) rfl (by kernel_rfl) (by kernel_rfl) (by kernel_rfl) (fun _ _ _ h => h) (Or.inl ⟨by rfl, ?_⟩) (by assumption) ?_
  rotate_left
  · (intro w hSw; (try dsimp only at hSw); go_simp; (try with_reducible rfl))
  (try simp only [Act.put, List.setIfInBounds_toArray, List.set_cons_zero, List.set_cons_succ])
  refine wpAnyH_take (i := 46) (oi := { dst := some 55, op := _, type := _, pos := _, after := _, guard := _ }) (v := ?_) rfl (by kernel_rfl) (by kernel_rfl) (by kernel_rfl) (fun _ _ _ h => h) (Or.inl ⟨by rfl, ?_⟩) (by assumption) ?_
  rotate_left
  · (intro w hSw; (try dsimp only at hSw); go_simp; (try with_reducible rfl))
  (try simp only [Act.put, List.setIfInBounds_toArray, List.set_cons_zero, List.set_cons_succ])
  refine wpAnyH_take (i := 47) (oi := { dst := some 56, op := _, type := _, pos := _, after := _, guard := _ }) (v := ?_) rfl (by kernel_rfl) (by kernel_rfl) (by kernel_rfl) (fun _ _ _ h => h) (Or.inl ⟨by rfl, ?_⟩) (by assumption) ?_
  rotate_left
  · (intro w hSw; (try dsimp only at hSw); go_simp; (try with_reducible rfl))
  (try simp only [Act.put, List.setIfInBounds_toArray, List.set_cons_zero, List.set_cons_succ])
  refine wpAnyH_take (i := 48) (oi := { dst := some 57, op := _, type := _, pos := _, after := _, guard := _ }) (v := ?_) rfl (by kernel_rfl) (by kernel_rfl) (by kernel_rfl) (fun _ _ _ h => h) (Or.inl ⟨by rfl, ?_⟩) (by assumption) ?_
  rotate_left
  · (intro w hSw; (try dsimp only at hSw); go_simp; (try with_reducible rfl))
  (try simp only [Act.put, List.setIfInBounds_toArray, List.set_cons_zero, List.set_cons_succ])
  refine wpAnyH_take (i := 49) (oi := { dst := some 58, op := _, type := _, pos := _, after := _, guard := _ }) (v := ?_) rfl (by kernel_rfl) (by kernel_rfl) (by kernel_rfl) (fun _ _ _ h => h) (Or.inl ⟨by rfl, ?_⟩) (by assumption) ?_
  rotate_left
  · (intro w hSw; (try dsimp only at hSw); go_simp; (try with_reducible rfl))
  (try simp only [Act.put, List.setIfInBounds_toArray, List.set_cons_zero, List.set_cons_succ])
  refine wpAnyH_take (i := 50) (oi := { dst := some 59, op := _, type := _, pos := _, after := _, guard := _ }) (v := ?_) rfl (by kernel_rfl) (by kernel_rfl) (by kernel_rfl) (fun _ _ _ h => h) (Or.inl ⟨by rfl, ?_⟩) (by assumption) ?_
  rotate_left
  · (intro w hSw; (try dsimp only at hSw); go_simp; (try with_reducible rfl))
  (try simp only [Act.put, List.setIfInBounds_toArray, List.set_cons_zero, List.set_cons_succ])
  refine wpAnyH_take (i := 51) (oi := { dst := some 60, op := _, type := _, pos := _, after := _, guard := _ }) (v := ?_) rfl (by kernel_rfl) (by kernel_rfl) (by kernel_rfl) (fun _ _ _ h => h) (Or.inl ⟨by rfl, ?_⟩) (by assumption) ?_
  rotate_left
  · (intro w hSw; (try dsimp only at hSw); go_simp; (try with_reducible rfl))
  (try simp only [Act.put, List.setIfInBounds_toArray, List.set_cons_zero, List.set_cons_succ])
  refine wpAnyH_take (i := 52) (oi := { dst := some 61, op := _, type := _, pos := _, after := _, guard := _ }) (v := ?_) rfl (by kernel_rfl) (by kernel_rfl) (by kernel_rfl) (fun _ _ _ h => h) (Or.inl ⟨by rfl, ?_⟩) (by assumption) ?_
  rotate_left
  · (intro w hSw; (try dsimp only at hSw); go_simp; (try with_reducible rfl))
  (try simp only [Act.put, List.setIfInBounds_toArray, List.set_cons_zero, List.set_cons_succ])
  refine wpAnyH_take (i := 53) (oi := { dst := some 62, op := _, type := _, pos := _, after := _, guard := _ }) (v := ?_) rfl (by kernel_rfl) (by kernel_rfl) (by kernel_rfl) (fun _ _ _ h => h) (Or.inl ⟨by rfl, ?_⟩) (by assumption) ?_
  rotate_left
  · (intro w hSw; (try dsimp only at hSw); go_simp; (try with_reducible rfl))
  (try simp only [Act.put, List.setIfInBounds_toArray, List.set_cons_zero, List.set_cons_succ])
  refine wpAnyH_take (i := 54) (oi := { dst := some 63, op := _, type := _, pos := _, after := _, guard := _ }) (v := ?_) rfl (by kernel_rfl) (by kernel_rfl) (by kernel_rfl) (fun _ _ _ h => h) (Or.inl ⟨by rfl, ?_⟩) (by assumption) ?_
  rotate_left
  · (intro w hSw; (try dsimp only at hSw); go_simp; (try with_reducible rfl))
  (try simp only [Act.put, List.setIfInBounds_toArray, List.set_cons_zero, List.set_cons_succ])
  refine wpAnyH_take (i := 55) (oi := { dst := some 64, op := _, type := _, pos := _, after := _, guard := _ }) (v := ?_) rfl (by kernel_rfl) (by kernel_rfl) (by kernel_rfl) (fun _ _ _ h => h) (Or.inl ⟨by rfl, ?_⟩) (by assumption) ?_
  rotate_left
  · (intro w hSw; (try dsimp only at hSw); go_simp; (try with_reducible rfl))
  (try simp only [Act.put, List.setIfInBounds_toArray, List.set_cons_zero, List.set_cons_succ])
  refine wpAnyH_take (i := 56) (oi := { dst := some 65, op := _, type := _, pos := _, after := _, guard := _ }) (v := ?_) rfl (by kernel_rfl) (by kernel_rfl) (by kernel_rfl) (fun _ _ _ h => h) (Or.inl ⟨by rfl, ?_⟩) (by assumption) ?_
  rotate_left
  · (intro w hSw; (try dsimp only at hSw); go_simp; (try with_reducible rfl))
  (try simp only [Act.put, List.setIfInBounds_toArray, List.set_cons_zero, List.set_cons_succ])
  refine wpAnyH_take (i := 57) (oi := { dst := some 66, op := _, type := _, pos := _, after := _, guard := _ }) (v := ?_) rfl (by kernel_rfl) (by kernel_rfl) (by kernel_rfl) (fun _ _ _ h => h) (Or.inl ⟨by rfl, ?_⟩) (by assumption) ?_
  rotate_left
  · (intro w hSw; (try dsimp only at hSw); go_simp; (try with_reducible rfl))
  (try simp only [Act.put, List.setIfInBounds_toArray, List.set_cons_zero, List.set_cons_succ])
  refine wpAnyH_take (i := 58) (oi := { dst := some 67, op := _, type := _, pos := _, after := _, guard := _ }) (v := ?_) rfl (by kernel_rfl) (by kernel_rfl) (by kernel_rfl) (fun _ _ _ h => h) (Or.inl ⟨by rfl, ?_⟩) (by assumption) ?_
  rotate_left
  · (intro w hSw; (try dsimp only at hSw); go_simp; (try with_reducible rfl))
  (try simp only [Act.put, List.setIfInBounds_toArray, List.set_cons_zero, List.set_cons_succ])
  refine wpAnyH_take (i := 59) (oi := { dst := some 68, op := _, type := _, pos := _, after := _, guard := _ }) (v := ?_) rfl (by kernel_rfl) (by kernel_rfl) (by kernel_rfl) (fun _ _ _ h => h) (Or.inl ⟨by rfl, ?_⟩) (by assumption) ?_
  rotate_left
  · (intro w hSw; (try dsimp only at hSw); go_simp; (try with_reducible rfl))
  (try simp only [Act.put, List.setIfInBounds_toArray, List.set_cons_zero, List.set_cons_succ])
  refine wpAnyH_take (i := 60) (oi := { dst := some 69, op := _, type := _, pos := _, after := _, guard := _ }) (v := ?_) rfl (by kernel_rfl) (by kernel_rfl) (by kernel_rfl) (fun _ _ _ h => h) (Or.inl ⟨by rfl, ?_⟩) (by assumption) ?_
  rotate_left
  · (intro w hSw; (try dsimp only at hSw); go_simp; (try with_reducible rfl))
  (try simp only [Act.put, List.setIfInBounds_toArray, List.set_cons_zero, List.set_cons_succ])
  refine wpAnyH_take (i := 61) (oi := { dst := some 70, op := _, type := _, pos := _, after := _, guard := _ }) (v := ?_) rfl (by kernel_rfl) (by kernel_rfl) (by kernel_rfl) (fun _ _ _ h => h) (Or.inl ⟨by rfl, ?_⟩) (by assumption) ?_
  rotate_left
  · (intro w hSw; (try dsimp only at hSw); go_simp; (try with_reducible rfl))
  (try simp only [Act.put, List.setIfInBounds_toArray, List.set_cons_zero, List.set_cons_succ])
  refine wpAnyH_take (i := 62) (oi := { dst := some 71, op := _, type := _, pos := _, after := _, guard := _ }) (v := ?_) rfl (by kernel_rfl) (by kernel_rfl) (by kernel_rfl) (fun _ _ _ h => h) (Or.inl ⟨by rfl, ?_⟩) (by assumption) ?_
  rotate_left
  · (intro w hSw; (try dsimp only at hSw); go_simp; (try with_reducible rfl))
  (try simp only [Act.put, List.setIfInBounds_toArray, List.set_cons_zero, List.set_cons_succ])
  refine wpAnyH_take (i := 63) (oi := { dst := some 72, op := _, type := _, pos := _, after := _, guard := _ }) (v := ?_) rfl (by kernel_rfl) (by kernel_rfl) (by kernel_rfl) (fun _ _ _ h => h) (Or.inl ⟨by rfl, ?_⟩) (by assumption) ?_
  rotate_left
  · (intro w hSw; (try dsimp only at hSw); go_simp; (try with_reducible rfl))
  (try simp only [Act.put, List.setIfInBounds_toArray, List.set_cons_zero, List.set_cons_succ])
  refine wpAnyH_take (i := 64) (oi := { dst := some 73, op := _, type := _, pos := _, after := _, guard := _ }) (v := ?_) rfl (by kernel_rfl) (by kernel_rfl) (by kernel_rfl) (fun _ _ _ h => h) (Or.inl ⟨by rfl, ?_⟩) (by assumption) ?_
  rotate_left
  · (intro w hSw; (try dsimp only at hSw); go_simp; (try with_reducible rfl))
  (try simp only [Act.put, List.setIfInBounds_toArray, List.set_cons_zero, List.set_cons_succ])
  refine wpAnyH_take (i := 65) (oi := { dst := some 74, op := _, type := _, pos := _, after := _, guard := _ }) (v := ?_) rfl (by kernel_rfl) (by kernel_rfl) (by kernel_rfl) (fun _ _ _ h => h) (Or.inl ⟨by rfl, ?_⟩) (by assumption) ?_
  rotate_left
  · (intro w hSw; (try dsimp only at hSw); go_simp; (try with_reducible rfl))
  (try simp only [Act.put, List.setIfInBounds_toArray, List.set_cons_zero, List.set_cons_succ])
  refine wpAnyH_ready (rs := [40]) (by kernel_rfl) (by simp) ?_
  refine AllReadyH.cons (o := { dst := some 49, op := _, type := _, pos := _, after := _, guard := _ }) rfl (fun K hK => ?_) AllReadyH.nil
  go_simp
  refine (ref_present (nmT p0) (nmT q0) _).mono ?_; rintro e w10 ⟨rfl, hb10⟩; replace hE := hE.trans hb10; clear hb10
  try go_wp2_with fail
  refine hK.out _ _ ?_ (fun hHeld => ?_)
  · (try dsimp only); exact HS.out _ hE
  clear hK K
  (try simp only [Act.put, List.setIfInBounds_toArray, List.set_cons_zero, List.set_cons_succ])
  refine wpAnyH_ready (rs := [45]) (by kernel_rfl) (by simp) ?_
  refine AllReadyH.cons (o := { dst := some 54, op := _, type := _, pos := _, after := _, guard := _ }) rfl (fun K hK => ?_) AllReadyH.nil
  go_simp
  refine (ref_present (nmT p1) (nmT q1) _).mono ?_; rintro e w10 ⟨rfl, hb10⟩; replace hE := hE.trans hb10; clear hb10
  try go_wp2_with fail
  refine hK.out _ _ ?_ (fun hHeld => ?_)
  · (try dsimp only); exact HS.out _ hE
  clear hK K
  (try simp only [Act.put, List.setIfInBounds_toArray, List.set_cons_zero, List.set_cons_succ])
  refine wpAnyH_take (i := 66) (oi := { dst := some 75, op := _, type := _, pos := _, after := _, guard := _ }) (v := ?_) rfl (by kernel_rfl) (by kernel_rfl) (by kernel_rfl) (fun _ _ _ h => h) (Or.inl ⟨by rfl, ?_⟩) (by assumption) ?_
  rotate_left
  · (intro w hSw; (try dsimp only at hSw); go_simp; (try with_reducible rfl))
  (try simp only [Act.put, List.setIfInBounds_toArray, List.set_cons_zero, List.set_cons_succ])
  refine wpAnyH_ready (rs := [67]) (by kernel_rfl) (by simp) ?_
  refine AllReadyH.cons (o := { dst := none, op := _, type := _, pos := _, after := _, guard := _ }) rfl (fun K hK => ?_) AllReadyH.nil
  refine step_storeB rfl 23 (.tmp 4) (.tmp 75) rfl rfl (w.heap.size + 1 + 1) (dArr (mgD ⟨a0, a1, a2, a3, a4, a5, p0, p1, p2, p3, p4, p5⟩ ⟨c0, c1, c2, c3, c4, c5, q0, q1, q2, q3, q4, q5⟩)) rfl rfl 23 _ (HR9.out.ext hE) infoD rfl (dArr_one _) ?_; intro w11 hB11 hx11
  refine hK.out _ _ ?_ (fun hHeld => ?_)
  · (try dsimp only); (have hA11 := (HA9.out.ext hE).grown hx11 (by simp; omega)); (have hB11 := (HB9.out.ext hE).grown hx11 (by simp)); exact ⟨⟨hA11.cell 0, hA11.cell 1, hA11.cell 2, hA11.cell 3, hA11.cell 4, hA11.cell 5, hA11.cell 6, hA11.cell 7, hA11.cell 8, hA11.cell 9, hA11.cell 10, hA11.cell 11⟩, ⟨hB11.cell 0, hB11.cell 1, hB11.cell 2, hB11.cell 3, hB11.cell 4, hB11.cell 5, hB11.cell 6, hB11.cell 7, hB11.cell 8, hB11.cell 9, hB11.cell 10, hB11.cell 11⟩⟩
  clear hK K
  (try simp only [Act.put, List.setIfInBounds_toArray, List.set_cons_zero, List.set_cons_succ])
  refine wpAnyH_done (by kernel_rfl) ?_ _
  go_wp2_with fail
  exact bodyPost_ret (v := .agg (dArr (mgD ⟨a0, a1, a2, a3, a4, a5, p0, p1, p2, p3, p4, p5⟩ ⟨c0, c1, c2, c3, c4, c5, q0, q1, q2, q3, q4, q5⟩))) (results_cell_row rfl _ _ (w.heap.size + 1 + 1) 23 _ (0, 0) _ rfl hB11 Tryd.underlying23 rfl infoD) rfl ⟨rfl, (HE9.out.trans hE).growB hx11 (by omega)⟩
end Go.Proofs.YtafmedphgmacaaaDoor
