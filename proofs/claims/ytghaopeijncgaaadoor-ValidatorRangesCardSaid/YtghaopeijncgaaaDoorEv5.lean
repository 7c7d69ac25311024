
/- The walks of the law package's few and State; ValidatorEvaluates. -/
import Derived.Test.YtghaopeijncgaaaDoorEv4
import Derived.Test.YtghaopeijncgaaaDoorLaw1
namespace Go.Proofs.YtghaopeijncgaaaDoor
open Go.RowKit

def fewS (fs : List Fd) : Bool := decide (fs.length ≤ 20) && decide (sumF fs ≤ 3000)
theorem few_hi {fs : List Fd} (h : 20 < fs.length) : false = fewS fs := by unfold fewS; rw [decide_eq_false (by omega)]; simp
theorem few_lo {fs : List Fd} {b : Bool} (h : fs.length ≤ 20) (hb : decide ((sumF fs : Int) ≤ 3000) = b) : b = fewS fs := by
  unfold fewS; rw [decide_eq_true h, ← hb, Bool.true_and]; apply decide_eq_decide.2; omega

set_option maxHeartbeats 1000000 in
theorem law_few_lo (A : Option Addr) (n c : Nat) (fs : List Fd) (w : World) (hf : RdF w A n fs)
    (hn : n ≤ 20) (B : Nat) (hB : B ≤ 140737488355328) (hsz : Bsz B fs) :
    Calls Tryd.prog 23 #[.slice A n c] w fun e w' => e = .returned (.bool (fewS fs)) ∧ Ext w w' := by
  have hl := hf.lenF
  go_enter Tryd.func23, Tryd.ntmps23
  have Hl := Lib.hid hl; clear hl
  go_wp2_with fail
  go_loopw [3, 8] (fun v i wr => ∃ k, k ≤ n ∧ i = .int .i64 (k : Nat) ∧ v = .int .i64 (sumF (fs.take k) : Nat) ∧ Ext w wr) (fun _ i _ => n - (intOf i).toNat)
  case atStart => exact ⟨0, Nat.zero_le _, rfl, rfl, Ext.refl _⟩
  case round =>
    obtain ⟨k, hk, rfl, rfl, hbr⟩ := hrel
    have hsum2 : sumF (fs.take k) ≤ 20 * (2 * B) := sumF_lt (hsz.take k) (by simp; omega)
    by_cases hlt : k < n
    · have hlt' : k < fs.length := by have := Hl.out; omega
      obtain ⟨b, o, rfl, hc0, hc1⟩ := (hf.ext hbr).atF hlt'
      obtain ⟨hbd1, hbd2⟩ := hsz.at_ hlt'
      have Hst := Lib.hid (sumF_step hlt')
      generalize fs[k].1 = nm at *
      generalize fs[k].2 = vl at *
      generalize hX : sumF (fs.take k) = X at *
      clear hX
      go_wp2
      go_roundw
      case rel => exact ⟨k + 1, by omega, by go_num, by rw [Hst.out]; go_num, (hbr.alloc _)⟩
      case measure => simp [intOf]; omega
    · obtain rfl : k = n := by omega
      have he : fs.take k = fs := List.take_of_length_le (by have := Hl.out; omega)
      rw [he] at hsum2
      rw [he]
      have Hlo := Lib.hid (fun b => few_lo (fs := fs) (b := b) (by have := Hl.out; omega))
      generalize sumF fs = X at *
      clear he
      go_wp2
      · go_ret
        exact ⟨congrArg (fun x => Ending.returned (.bool x)) (Hlo.out _ rfl), hbr⟩

set_option maxHeartbeats 1000000 in
theorem law_few_hi (A : Option Addr) (n c : Nat) (fs : List Fd) (w : World) (hf : RdF w A n fs)
    (hn : 20 < n) (hn2 : n ≤ 9223372036854775807) :
    Calls Tryd.prog 23 #[.slice A n c] w fun e w' => e = .returned (.bool (fewS fs)) ∧ Ext w w' := by
  have hl := hf.lenF
  go_enter Tryd.func23, Tryd.ntmps23
  have Hl := Lib.hid hl; clear hl
  go_wp2_with fail
  go_loopw [3, 8] (fun v i wr => ∃ k z, k ≤ n ∧ i = .int .i64 (k : Nat) ∧ v = .int .i64 z ∧ Ext w wr) (fun _ i _ => n - (intOf i).toNat)
  case atStart => exact ⟨0, 0, Nat.zero_le _, rfl, rfl, Ext.refl _⟩
  case round =>
    obtain ⟨k, z, hk, rfl, rfl, hbr⟩ := hrel
    by_cases hlt : k < n
    · have hlt' : k < fs.length := by have := Hl.out; omega
      obtain ⟨b, o, rfl, hc0, hc1⟩ := (hf.ext hbr).atF hlt'
      generalize fs[k].1 = nm at *
      generalize fs[k].2 = vl at *
      go_wp2
      go_roundw
      case rel => exact ⟨k + 1, _, by omega, by go_num, rfl, (hbr.alloc _)⟩
      case measure => simp [intOf]; omega
    · obtain rfl : k = n := by omega
      have Hhi := Lib.hid (few_hi (fs := fs) (by have := Hl.out; omega))
      go_wp2
      go_ret
      exact ⟨congrArg (fun x => Ending.returned (.bool x)) Hhi.out, hbr⟩

theorem law_few (A : Option Addr) (n c : Nat) (fs : List Fd) (w : World) (hf : RdF w A n fs)
    (hn : n ≤ 9223372036854775807) (B : Nat) (hB : B ≤ 140737488355328) (hsz : Bsz B fs) :
    Calls Tryd.prog 23 #[.slice A n c] w fun e w' => e = .returned (.bool (fewS fs)) ∧ Ext w w' := by
  by_cases h : n ≤ 20
  · exact law_few_lo A n c fs w hf h B hB hsz
  · exact law_few_hi A n c fs w hf (by omega) hn


theorem bsz_sum : ∀ (fs : List Fd), Bsz (sumF fs) fs
  | [] => fun f hf => by cases hf
  | x :: l => fun f hf => by
    have hs : sumF (x :: l) = x.1.size + x.2.size + sumF l := by simp [sumF]
    rcases List.mem_cons.1 hf with rfl | hf
    · omega
    · have := bsz_sum l f hf
      omega
theorem few_yes {fs : List Fd} (h : fewS fs = true) : fs.length ≤ 20 ∧ sumF fs ≤ 3000 := by
  unfold fewS at h
  simpa using h

set_option maxHeartbeats 4000000 in
set_option maxRecDepth 100000 in
theorem law_State (st : St) (w : World) :
    Calls Tryd.prog 26 #[.agg (stArr st)] w fun e w' => e = .returned (.agg (stArr st)) ∧ Ext w w' := by
  obtain ⟨ex, ht, hm, tw, tt, md⟩ := st
  have hE0 := (Ext.refl w).alloc (.cells (stArr ⟨ex, ht, hm, tw, tt, md⟩) 52)
  have hB := Blk.new w 52 (stArr ⟨ex, ht, hm, tw, tt, md⟩)
  go_enter Tryd.func26, Tryd.ntmps26
  go_wp2_with fail
  have hZ := Blk.new (w.alloc (.cells (stArr ⟨ex, ht, hm, tw, tt, md⟩) 52)) 61 #[.bool false, .bool false, .bool false, .bool false, .string ⟨#[]⟩, .int .i64 0]
  rw [World.size_alloc] at hZ
  have hE1 := hE0.alloc (.cells #[.bool false, .bool false, .bool false, .bool false, .string ⟨#[]⟩, .int .i64 0] 61)
  have hB1 := hB.alloc (.cells #[.bool false, .bool false, .bool false, .bool false, .string ⟨#[]⟩, .int .i64 0] 61)
  generalize (w.alloc (.cells (stArr ⟨ex, ht, hm, tw, tt, md⟩) 52)).alloc (.cells #[.bool false, .bool false, .bool false, .bool false, .string ⟨#[]⟩, .int .i64 0] 61) = W0 at *
  have HB := Lib.hid hB1
  have HZ := Lib.hid hZ
  clear hB hB1 hZ hE0
  have HC := Lib.hid (show ∀ w', Ext W0 w' → (w'.cell? ⟨w.heap.size, 0, none⟩ = some (.bool ex) ∧ w'.cell? ⟨w.heap.size, 1, none⟩ = some (.bool ht) ∧ w'.cell? ⟨w.heap.size, 2, none⟩ = some (.bool hm) ∧ w'.cell? ⟨w.heap.size, 3, none⟩ = some (.bool tw) ∧ w'.cell? ⟨w.heap.size, 4, none⟩ = some (.string tt) ∧ w'.cell? ⟨w.heap.size, 5, none⟩ = some (.int .i64 md)) from fun w' h => ⟨(HB.out.ext h).cell 0, (HB.out.ext h).cell 1, (HB.out.ext h).cell 2, (HB.out.ext h).cell 3, (HB.out.ext h).cell 4, (HB.out.ext h).cell 5⟩)
  have hE := (Ext.refl W0).drew
  refine wp_region_held_drew (S := (fun w' => w'.cell? ⟨w.heap.size, 0, none⟩ = some (.bool ex) ∧ w'.cell? ⟨w.heap.size, 1, none⟩ = some (.bool ht) ∧ w'.cell? ⟨w.heap.size, 2, none⟩ = some (.bool hm) ∧ w'.cell? ⟨w.heap.size, 3, none⟩ = some (.bool tw) ∧ w'.cell? ⟨w.heap.size, 4, none⟩ = some (.string tt) ∧ w'.cell? ⟨w.heap.size, 5, none⟩ = some (.int .i64 md))) (by kernel_rfl) ?_ (fun hHeld => ?_)
  · (try dsimp only); exact HC.out _ hE
  refine wpAnyH_take (i := 0) (oi := { dst := some 3, op := _, type := _, pos := _, after := _, guard := _ }) (v := ?_) rfl (by kernel_rfl) (by kernel_rfl) (by kernel_rfl) (fun _ _ _ h => h) (Or.inl ⟨by rfl, ?_⟩) (by assumption) ?_
  rotate_left
  · (intro w hSw; (try dsimp only at hSw); go_simp; (try with_reducible rfl))
  (try simp only [Act.put, List.setIfInBounds_toArray, List.set_cons_zero, List.set_cons_succ])
  refine wpAnyH_take (i := 1) (oi := { dst := some 4, op := _, type := _, pos := _, after := _, guard := _ }) (v := ?_) rfl (by kernel_rfl) (by kernel_rfl) (by kernel_rfl) (fun _ _ _ h => h) (Or.inl ⟨by rfl, ?_⟩) (by assumption) ?_
  rotate_left
  · (intro w hSw; (try dsimp only at hSw); go_simp; (try with_reducible rfl))
  (try simp only [Act.put, List.setIfInBounds_toArray, List.set_cons_zero, List.set_cons_succ])
  refine wpAnyH_take (i := 2) (oi := { dst := some 5, op := _, type := _, pos := _, after := _, guard := _ }) (v := ?_) rfl (by kernel_rfl) (by kernel_rfl) (by kernel_rfl) (fun _ _ _ h => h) (Or.inl ⟨by rfl, ?_⟩) (by assumption) ?_
  rotate_left
  · (intro w hSw; (try dsimp only at hSw); go_simp; (try with_reducible rfl))
  (try simp only [Act.put, List.setIfInBounds_toArray, List.set_cons_zero, List.set_cons_succ])
  refine wpAnyH_take (i := 3) (oi := { dst := some 6, op := _, type := _, pos := _, after := _, guard := _ }) (v := ?_) rfl (by kernel_rfl) (by kernel_rfl) (by kernel_rfl) (fun _ _ _ h => h) (Or.inl ⟨by rfl, ?_⟩) (by assumption) ?_
  rotate_left
  · (intro w hSw; (try dsimp only at hSw); go_simp; (try with_reducible rfl))
  (try simp only [Act.put, List.setIfInBounds_toArray, List.set_cons_zero, List.set_cons_succ])
  refine wpAnyH_take (i := 4) (oi := { dst := some 7, op := _, type := _, pos := _, after := _, guard := _ }) (v := ?_) rfl (by kernel_rfl) (by kernel_rfl) (by kernel_rfl) (fun _ _ _ h => h) (Or.inl ⟨by rfl, ?_⟩) (by assumption) ?_
  rotate_left
  · (intro w hSw; (try dsimp only at hSw); go_simp; (try with_reducible rfl))
  (try simp only [Act.put, List.setIfInBounds_toArray, List.set_cons_zero, List.set_cons_succ])
  refine wpAnyH_take (i := 5) (oi := { dst := some 8, op := _, type := _, pos := _, after := _, guard := _ }) (v := ?_) rfl (by kernel_rfl) (by kernel_rfl) (by kernel_rfl) (fun _ _ _ h => h) (Or.inl ⟨by rfl, ?_⟩) (by assumption) ?_
  rotate_left
  · (intro w hSw; (try dsimp only at hSw); go_simp; (try with_reducible rfl))
  (try simp only [Act.put, List.setIfInBounds_toArray, List.set_cons_zero, List.set_cons_succ])
  refine wpAnyH_take (i := 6) (oi := { dst := some 9, op := _, type := _, pos := _, after := _, guard := _ }) (v := ?_) rfl (by kernel_rfl) (by kernel_rfl) (by kernel_rfl) (fun _ _ _ h => h) (Or.inl ⟨by rfl, ?_⟩) (by assumption) ?_
  rotate_left
  · (intro w hSw; (try dsimp only at hSw); go_simp; (try with_reducible rfl))
  (try simp only [Act.put, List.setIfInBounds_toArray, List.set_cons_zero, List.set_cons_succ])
  refine wpAnyH_take (i := 7) (oi := { dst := some 10, op := _, type := _, pos := _, after := _, guard := _ }) (v := ?_) rfl (by kernel_rfl) (by kernel_rfl) (by kernel_rfl) (fun _ _ _ h => h) (Or.inl ⟨by rfl, ?_⟩) (by assumption) ?_
  rotate_left
  · (intro w hSw; (try dsimp only at hSw); go_simp; (try with_reducible rfl))
  (try simp only [Act.put, List.setIfInBounds_toArray, List.set_cons_zero, List.set_cons_succ])
  refine wpAnyH_take (i := 9) (oi := { dst := some 12, op := _, type := _, pos := _, after := _, guard := _ }) (v := ?_) rfl (by kernel_rfl) (by kernel_rfl) (by kernel_rfl) (fun _ _ _ h => h) (Or.inl ⟨by rfl, ?_⟩) (by assumption) ?_
  rotate_left
  · (intro w hSw; (try dsimp only at hSw); go_simp; (try with_reducible rfl))
  (try simp only [Act.put, List.setIfInBounds_toArray, List.set_cons_zero, List.set_cons_succ])
  refine wpAnyH_take (i := 10) (oi := { dst := some 13, op := _, type := _, pos := _, after := _, guard := _ }) (v := ?_) rfl (by kernel_rfl) (by kernel_rfl) (by kernel_rfl) (fun _ _ _ h => h) (Or.inl ⟨by rfl, ?_⟩) (by assumption) ?_
  rotate_left
  · (intro w hSw; (try dsimp only at hSw); go_simp; (try with_reducible rfl))
  (try simp only [Act.put, List.setIfInBounds_toArray, List.set_cons_zero, List.set_cons_succ])
  refine wpAnyH_ready (rs := [8]) (by kernel_rfl) (by simp) ?_
  refine AllReadyH.cons (o := { dst := some 11, op := _, type := _, pos := _, after := _, guard := _ }) rfl (fun K hK => ?_) AllReadyH.nil
  go_simp
  refine (law_tag tw tt _).mono ?_; rintro e w2 ⟨rfl, hb2⟩; have hE := hE.trans hb2
  try go_wp2_with fail
  refine hK.out _ _ ?_ (fun hHeld => ?_)
  · (try dsimp only); exact HC.out _ hE
  clear hK K
  (try simp only [Act.put, List.setIfInBounds_toArray, List.set_cons_zero, List.set_cons_succ])
  refine wpAnyH_take (i := 11) (oi := { dst := some 14, op := _, type := _, pos := _, after := _, guard := _ }) (v := ?_) rfl (by kernel_rfl) (by kernel_rfl) (by kernel_rfl) (fun _ _ _ h => h) (Or.inl ⟨by rfl, ?_⟩) (by assumption) ?_
  rotate_left
  · (intro w hSw; (try dsimp only at hSw); go_simp; (try with_reducible rfl))
  (try simp only [Act.put, List.setIfInBounds_toArray, List.set_cons_zero, List.set_cons_succ])
  refine wpAnyH_ready (rs := [12]) (by kernel_rfl) (by simp) ?_
  refine AllReadyH.cons (o := { dst := none, op := _, type := _, pos := _, after := _, guard := _ }) rfl (fun K hK => ?_) AllReadyH.nil
  have z0 := (HZ.out.ext hE).cell 0; have z1 := (HZ.out.ext hE).cell 1; have z2 := (HZ.out.ext hE).cell 2; have z3 := (HZ.out.ext hE).cell 3; have z4 := (HZ.out.ext hE).cell 4; have z5 := (HZ.out.ext hE).cell 5; have zf := (HZ.out.ext hE).frozen
  go_simp
  skip
  try go_wp2_with fail
  refine hK.out _ _ ?_ (fun hHeld => ?_)
  · (try dsimp only); (have hne : w.heap.size ≠ w.heap.size + 1 := by omega); (have hX := ((((((HB.out.ext hE).far (p := ⟨w.heap.size + 1, 0, none⟩) hne (.bool ex)).far (p := ⟨w.heap.size + 1, 1, none⟩) hne (.bool ht)).far (p := ⟨w.heap.size + 1, 2, none⟩) hne (.bool hm)).far (p := ⟨w.heap.size + 1, 3, none⟩) hne (.bool tw)).far (p := ⟨w.heap.size + 1, 4, none⟩) hne (.string tt)).far (p := ⟨w.heap.size + 1, 5, none⟩) hne (.int .i64 md)); exact ⟨hX.cell 0, hX.cell 1, hX.cell 2, hX.cell 3, hX.cell 4, hX.cell 5⟩
  clear hK K
  (try simp only [Act.put, List.setIfInBounds_toArray, List.set_cons_zero, List.set_cons_succ])
  refine wpAnyH_done (by kernel_rfl) ?_ _
  have hY := ((((((HZ.out.ext hE).set_ 0 (.bool ex)).set_ 1 (.bool ht)).set_ 2 (.bool hm)).set_ 3 (.bool tw)).set_ 4 (.string tt)).set_ 5 (.int .i64 md)
  have hG := ((((((ExtB.refl (w.heap.size + 1) w2).set_ 0 (.bool ex)).set_ 1 (.bool ht)).set_ 2 (.bool hm)).set_ 3 (.bool tw)).set_ 4 (.string tt)).set_ 5 (.int .i64 md)
  have hF := (hE1.trans hE).growB hG (by omega)
  clear hG
  generalize (((((w2.setCell ⟨w.heap.size + 1, 0, none⟩ (.bool ex)).setCell ⟨w.heap.size + 1, 1, none⟩ (.bool ht)).setCell ⟨w.heap.size + 1, 2, none⟩ (.bool hm)).setCell ⟨w.heap.size + 1, 3, none⟩ (.bool tw)).setCell ⟨w.heap.size + 1, 4, none⟩ (.string tt)).setCell ⟨w.heap.size + 1, 5, none⟩ (.int .i64 md) = WF at *
  have y0 : WF.cell? ⟨w.heap.size + 1, 0, none⟩ = some (.bool ex) := hY.cell 0
  have y1 : WF.cell? ⟨w.heap.size + 1, 1, none⟩ = some (.bool ht) := hY.cell 1
  have y2 : WF.cell? ⟨w.heap.size + 1, 2, none⟩ = some (.bool hm) := hY.cell 2
  have y3 : WF.cell? ⟨w.heap.size + 1, 3, none⟩ = some (.bool tw) := hY.cell 3
  have y4 : WF.cell? ⟨w.heap.size + 1, 4, none⟩ = some (.string tt) := hY.cell 4
  have y5 : WF.cell? ⟨w.heap.size + 1, 5, none⟩ = some (.int .i64 md) := hY.cell 5
  go_wp2_with fail
  exact bodyPost_ret (v := .agg (stArr ⟨ex, ht, hm, tw, tt, md⟩)) (by simp [results, Tryd.results26, go_sem, y0, y1, y2, y3, y4, y5, stArr]) rfl ⟨rfl, hF⟩
end Go.Proofs.YtghaopeijncgaaaDoor
