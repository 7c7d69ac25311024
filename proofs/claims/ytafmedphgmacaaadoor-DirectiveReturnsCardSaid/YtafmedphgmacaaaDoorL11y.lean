
/- The walks of DirectiveFormats and DirectiveReturns: they return true. -/
import Derived.Test.YtafmedphgmacaaaDoorL11x
import Derived.Test.YtafmedphgmacaaaDoorFm
import Derived.Test.YtafmedphgmacaaaDoorRFm
namespace Go.Proofs.YtafmedphgmacaaaDoor
open Go.RowKit

theorem tailL_len : ∀ l : List ByteArray, (tailL l).length = totS l + 2 * l.length
  | [] => rfl
  | x :: l => by
    have := tailL_len l
    have hx : x.data.toList.length = x.size := by simp
    rw [show tailL (x :: l) = 44 :: 32 :: (x.data.toList ++ tailL l) by simp [tailL], List.length_cons, List.length_cons, List.length_append, this, hx, List.length_cons, show totS (x :: l) = x.size + totS l by simp [totS]]
    omega
theorem joinS_le2 (l : List ByteArray) : (joinS l).size ≤ totS l + 2 * l.length := by
  cases l with
  | nil => decide
  | cons x l =>
    have h : (joinS (x :: l)).data.toList.length = (joinS (x :: l)).size := by simp
    have hx : x.data.toList.length = x.size := by simp
    rw [← h, join_list, List.length_append, tailL_len, hx, List.length_cons, show totS (x :: l) = x.size + totS l by simp [totS]]
    omega
theorem fmtD_size (d : D) : (fmtD d).size ≤ 2000 := by
  have h := joinS_le2 (elD (nmD d))
  have h1 : ∀ p ∈ tmL (nmD d), p.1 ≤ 2147483647 := by
    intro p hp
    simp only [tmL, List.mem_cons, List.not_mem_nil, or_false] at hp
    rcases hp with rfl | rfl | rfl | rfl | rfl | rfl <;> simp only [nmD, nmT] <;> omega
  have h2 := flE_tot _ (fl_short (nmD d))
  have h3 := tmE_tot _ (tm_short (nmD d)) h1
  have h4 := flE_len (flL (nmD d))
  have h5 := tmE_len (tmL (nmD d))
  have e1 : (flL (nmD d)).length = 6 := rfl
  have e2 : (tmL (nmD d)).length = 6 := rfl
  have e3 : (elD (nmD d)).length = (flE (flL (nmD d))).length + (tmE (tmL (nmD d))).length := by rw [el_split, List.length_append]
  have e4 : totS (elD (nmD d)) = totS (flE (flL (nmD d))) + totS (tmE (tmL (nmD d))) := by rw [el_split, totS_app]
  unfold fmtD
  omega

set_option maxHeartbeats 4000000 in
set_option maxRecDepth 100000 in
theorem formats_walk (x : D) (w : World) (hg : Gl w) (hp : GlP w) :
    Calls Tryd.prog 5 #[.agg (dArr x)] w fun e w' => e = .returned (.bool true) ∧ Ext w w' := by
  have HA := Lib.hid (Blk.new w 23 (dArr x))
  have HE := Lib.hid ((Ext.refl w).alloc (.cells (dArr x) 23))
  go_enter Tryd.func5, Tryd.ntmps5
  go_wp2_with fail
  generalize (w.alloc (.cells (dArr x) 23)) = W0 at *
  refine (law_awake _ (hg.ext HE.out)).mono ?_; rintro e w2 ⟨rfl, hb2⟩
  have HB2 := Lib.hid hb2
  have HP := Lib.hid (show ∀ w', Ext W0 w' → GlP w' from fun w' h => hp.ext (HE.out.trans h))
  clear hb2
  go_wp2_with fail
  have hE := HB2.out.drew
  refine wp_region_held_drew (S := (fun w' => Blk w' w.heap.size 23 (dArr x))) (by kernel_rfl) ?_ (fun hHeld => ?_)
  · (try dsimp only); exact HA.out.ext hE
  refine wpAnyH_take (i := 0) (oi := { dst := some 5, op := _, type := _, pos := _, after := _, guard := _ }) (v := .agg (dArr x)) rfl (by kernel_rfl) (by kernel_rfl) (by kernel_rfl) (fun _ _ _ h => h) (yield_loadB rfl 23 (.tmp 1) rfl (w.heap.size) rfl 23 _ (fun w h => h) _ Tryd.underlying23 infoD) (by assumption) ?_
  (try simp only [Act.put, List.setIfInBounds_toArray, List.set_cons_zero, List.set_cons_succ])
  refine wpAnyH_take (i := 3) (oi := { dst := some 8, op := _, type := _, pos := _, after := _, guard := _ }) (v := .agg (dArr x)) rfl (by kernel_rfl) (by kernel_rfl) (by kernel_rfl) (fun _ _ _ h => h) (yield_loadB rfl 23 (.tmp 1) rfl (w.heap.size) rfl 23 _ (fun w h => h) _ Tryd.underlying23 infoD) (by assumption) ?_
  (try simp only [Act.put, List.setIfInBounds_toArray, List.set_cons_zero, List.set_cons_succ])
  refine wpAnyH_ready (rs := [1]) (by kernel_rfl) (by simp) ?_
  refine AllReadyH.cons (o := { dst := some 6, op := _, type := _, pos := _, after := _, guard := _ }) rfl (fun K hK => ?_) AllReadyH.nil
  go_simp
  refine (law_Program x _).mono ?_; rintro e w1 ⟨rfl, hb1⟩; replace hE := hE.trans hb1; clear hb1
  try go_wp2_with fail
  refine hK.out _ _ ?_ (fun hHeld => ?_)
  · (try dsimp only); exact HA.out.ext hE
  clear hK K
  (try simp only [Act.put, List.setIfInBounds_toArray, List.set_cons_zero, List.set_cons_succ])
  refine wpAnyH_ready (rs := [2]) (by kernel_rfl) (by simp) ?_
  refine AllReadyH.cons (o := { dst := some 7, op := _, type := _, pos := _, after := _, guard := _ }) rfl (fun K hK => ?_) AllReadyH.nil
  go_simp
  refine (dir_Format x _ (HP.out _ hE)).mono ?_; rintro e w1 ⟨rfl, hb1⟩; replace hE := hE.trans hb1; clear hb1
  try go_wp2_with fail
  refine hK.out _ _ ?_ (fun hHeld => ?_)
  · (try dsimp only); exact HA.out.ext hE
  clear hK K
  (try simp only [Act.put, List.setIfInBounds_toArray, List.set_cons_zero, List.set_cons_succ])
  refine wpAnyH_ready (rs := [4]) (by kernel_rfl) (by simp) ?_
  refine AllReadyH.cons (o := { dst := some 9, op := _, type := _, pos := _, after := _, guard := _ }) rfl (fun K hK => ?_) AllReadyH.nil
  go_simp
  refine (ref_Format x _).mono ?_; rintro e w1 ⟨rfl, hb1⟩; replace hE := hE.trans hb1; clear hb1
  try go_wp2_with fail
  refine hK.out _ _ ?_ (fun hHeld => ?_)
  · (try dsimp only); exact HA.out.ext hE
  clear hK K
  (try simp only [Act.put, List.setIfInBounds_toArray, List.set_cons_zero, List.set_cons_succ])
  refine wpAnyH_take (i := 5) (oi := { dst := some 10, op := _, type := _, pos := _, after := _, guard := _ }) (v := ?_) rfl (by kernel_rfl) (by kernel_rfl) (by kernel_rfl) (fun _ _ _ h => h) (Or.inl ⟨by rfl, ?_⟩) (by assumption) ?_
  rotate_left
  · (intro w hSw; (try dsimp only at hSw); go_simp; (try with_reducible rfl))
  (try simp only [Act.put, List.setIfInBounds_toArray, List.set_cons_zero, List.set_cons_succ])
  refine wpAnyH_take (i := 6) (oi := { dst := some 2, op := _, type := _, pos := _, after := _, guard := _ }) (v := ?_) rfl (by kernel_rfl) (by kernel_rfl) (by kernel_rfl) (fun _ _ _ h => h) (Or.inl ⟨by rfl, ?_⟩) (by assumption) ?_
  rotate_left
  · (intro w hSw; (try dsimp only at hSw); go_simp; (try with_reducible rfl))
  (try simp only [Act.put, List.setIfInBounds_toArray, List.set_cons_zero, List.set_cons_succ])
  refine wpAnyH_done (by kernel_rfl) ?_ _
  go_wp2_with fail
  go_ret
  exact ⟨rfl, HE.out.trans hE⟩

set_option maxHeartbeats 4000000 in
set_option maxRecDepth 100000 in
theorem returns_walk (x : D) (w : World) (hg : Gl w) (hp : GlP w) :
    Calls Tryd.prog 6 #[.agg (dArr x)] w fun e w' => e = .returned (.bool true) ∧ Ext w w' := by
  have HA0 := Lib.hid (Blk.new w 23 (dArr x))
  have HE0 := Lib.hid ((Ext.refl w).alloc (.cells (dArr x) 23))
  have HQ := Lib.hid (eqlR (nmD x))
  have HF := Lib.hid (fmt_again x)
  have HD := Lib.hid (fmt_back x)
  have Hsz := Lib.hid (fmtD_size x)
  go_enter Tryd.func6, Tryd.ntmps6
  go_wp2_with fail
  refine (law_awake _ (hg.ext HE0.out)).mono ?_; rintro e w2 ⟨rfl, hb2⟩
  have HE2 := Lib.hid (HE0.out.trans hb2)
  have HA2 := Lib.hid (HA0.out.ext hb2)
  clear hb2 HE0 HA0
  go_wp2_with (first
    | (refine wpList_loadB rfl 23 (.tmp 1) rfl w.heap.size rfl 23 _ HA2.out _ Tryd.underlying23 infoD ?_))
  refine (law_Program x _).mono ?_; rintro e w3 ⟨rfl, hb3⟩
  go_wp2_with fail
  refine (dir_Format x _ (hp.ext (HE2.out.trans hb3))).mono ?_; rintro e w4 ⟨rfl, hb4⟩
  have HE4 := Lib.hid ((HE2.out.trans hb3).trans hb4)
  have HA4 := Lib.hid ((HA2.out.ext hb3).ext hb4)
  clear hb3 hb4 HE2 HA2
  generalize fmtD x = X at *
  have HR := Lib.hid (Rd.one w4 (.string X) 9 rfl)
  have HE5 := Lib.hid (HE4.out.alloc (.cells #[.string X] 9))
  have HA5 := Lib.hid (HA4.out.alloc (.cells #[.string X] 9))
  clear HE4 HA4
  go_wp2_with fail
  refine (law_Fields _ 1 1 [X] _ HR.out (by decide)).mono ?_; rintro e w6 ⟨A1, c1, rfl, hf1, hc1, hb6⟩
  have HE6 := Lib.hid (HE5.out.trans hb6)
  have HA6 := Lib.hid (HA5.out.ext hb6)
  clear hb6 HE5 HA5 HR
  go_wp2_with fail
  refine (dir_Parse _ _ _ _ _ hf1 (by decide) (bsz_flds (fun v hv => by have := Hsz.out; rw [List.mem_singleton] at hv; subst hv; omega) (by decide)) (hg.ext HE6.out)).mono ?_; rintro e w7 ⟨rfl, hb7⟩
  rw [all_flds, HD.out]
  have HE7 := Lib.hid (HE6.out.trans hb7)
  have HA7 := Lib.hid (HA6.out.ext hb7)
  clear hb7 HE6 HA6 hf1 hc1
  go_wp2_with (first
    | (refine wpList_storeB rfl 26 (.tmp 4) (.tmp 13) rfl rfl w7.heap.size _ rfl rfl 26 _ (Blk.new w7 _ _) infoDp rfl (dArr_one (nmD x)) ?_; intro w8 hB8 hx8))
  have HA8 := Lib.hid ((HA7.out.alloc (.cells (dArr zeroD) 26)).grown hx8 (by have := HA7.out.lt; intro e; injection e with e; omega))
  have HB8 := Lib.hid hB8
  have HE8 := Lib.hid ((HE7.out.alloc (.cells (dArr zeroD) 26)).growB hx8 HE7.out.size)
  clear hB8 hx8 HE7 HA7
  generalize w7.heap.size = bx at *
  have HP := Lib.hid (show ∀ w', Ext w8 w' → GlP w' from fun w' h => hp.ext (HE8.out.trans h))
  have hE := (Ext.refl w8).drew
  refine wp_region_held_drew (S := (fun w' => Blk w' w.heap.size 23 (dArr x) ∧ Blk w' bx 26 (dArr (nmD x)))) (by kernel_rfl) ?_ (fun hHeld => ?_)
  · (try dsimp only); exact ⟨HA8.out.ext hE, HB8.out.ext hE⟩
  refine wpAnyH_take (i := 0) (oi := { dst := some 14, op := _, type := _, pos := _, after := _, guard := _ }) (v := .agg (dArr (nmD x))) rfl (by kernel_rfl) (by kernel_rfl) (by kernel_rfl) (fun _ _ _ h => h) (yield_loadB rfl 26 (.tmp 4) rfl (bx) rfl 26 _ (fun w h => h.2) _ Tryd.underlying26 infoDp) (by assumption) ?_
  (try simp only [Act.put, List.setIfInBounds_toArray, List.set_cons_zero, List.set_cons_succ])
  refine wpAnyH_take (i := 2) (oi := { dst := some 16, op := _, type := _, pos := _, after := _, guard := _ }) (v := .agg (dArr x)) rfl (by kernel_rfl) (by kernel_rfl) (by kernel_rfl) (fun _ _ _ h => h) (yield_loadB rfl 23 (.tmp 1) rfl (w.heap.size) rfl 23 _ (fun w h => h.1) _ Tryd.underlying23 infoD) (by assumption) ?_
  (try simp only [Act.put, List.setIfInBounds_toArray, List.set_cons_zero, List.set_cons_succ])
  refine wpAnyH_ready (rs := [1]) (by kernel_rfl) (by simp) ?_
  refine AllReadyH.cons (o := { dst := some 15, op := _, type := _, pos := _, after := _, guard := _ }) rfl (fun K hK => ?_) AllReadyH.nil
  go_simp
  refine (law_Plain (nmD x) _).mono ?_; rintro e w1 ⟨rfl, hb1⟩; replace hE := hE.trans hb1; clear hb1
  try go_wp2_with fail
  refine hK.out _ _ ?_ (fun hHeld => ?_)
  · (try dsimp only); exact ⟨HA8.out.ext hE, HB8.out.ext hE⟩
  clear hK K
  (try simp only [Act.put, List.setIfInBounds_toArray, List.set_cons_zero, List.set_cons_succ])
  refine wpAnyH_ready (rs := [3]) (by kernel_rfl) (by simp) ?_
  refine AllReadyH.cons (o := { dst := some 17, op := _, type := _, pos := _, after := _, guard := _ }) rfl (fun K hK => ?_) AllReadyH.nil
  go_simp
  refine (ref_Normal x _).mono ?_; rintro e w1 ⟨rfl, hb1⟩; replace hE := hE.trans hb1; clear hb1
  try go_wp2_with fail
  refine hK.out _ _ ?_ (fun hHeld => ?_)
  · (try dsimp only); exact ⟨HA8.out.ext hE, HB8.out.ext hE⟩
  clear hK K
  (try simp only [Act.put, List.setIfInBounds_toArray, List.set_cons_zero, List.set_cons_succ])
  refine wpAnyH_take (i := 4) (oi := { dst := some 18, op := _, type := _, pos := _, after := _, guard := _ }) (v := .bool true) rfl (by kernel_rfl) (by kernel_rfl) (by kernel_rfl) (fun _ _ _ h => h) (yield_eql rfl _ _ (.tmp 15) (.tmp 17) rfl _ _ _ rfl rfl (by kernel_rfl) HQ.out) (by assumption) ?_
  (try simp only [Act.put, List.setIfInBounds_toArray, List.set_cons_zero, List.set_cons_succ])
  refine wpAnyH_take (i := 5) (oi := { dst := some 19, op := _, type := _, pos := _, after := _, guard := _ }) (v := ?_) rfl (by kernel_rfl) (by kernel_rfl) (by kernel_rfl) (fun _ _ _ h => h) (Or.inl ⟨by rfl, ?_⟩) (by assumption) ?_
  rotate_left
  · (intro w hSw; (try dsimp only at hSw); go_simp; (try with_reducible rfl))
  (try simp only [Act.put, List.setIfInBounds_toArray, List.set_cons_zero, List.set_cons_succ])
  refine wpAnyH_take (i := 6) (oi := { dst := some 20, op := _, type := _, pos := _, after := _, guard := _ }) (v := .agg (dArr (nmD x))) rfl (by kernel_rfl) (by kernel_rfl) (by kernel_rfl) (fun _ _ _ h => h) (yield_loadG rfl 26 (.tmp 4) rfl (bx) rfl 26 _ (fun w h => h.2) _ Tryd.underlying26 infoDp) (by assumption) ?_
  (try simp only [Act.put, List.setIfInBounds_toArray, List.set_cons_zero, List.set_cons_succ])
  refine wpAnyH_take (i := 8) (oi := { dst := some 22, op := _, type := _, pos := _, after := _, guard := _ }) (v := ?_) rfl (by kernel_rfl) (by kernel_rfl) (by kernel_rfl) (fun _ _ _ h => h) (Or.inl ⟨by rfl, ?_⟩) (by assumption) ?_
  rotate_left
  · (intro w hSw; (try dsimp only at hSw); go_simp; (try with_reducible rfl))
  (try simp only [Act.put, List.setIfInBounds_toArray, List.set_cons_zero, List.set_cons_succ])
  refine wpAnyH_ready (rs := [7]) (by kernel_rfl) (by simp) ?_
  refine AllReadyH.cons (o := { dst := some 21, op := _, type := _, pos := _, after := _, guard := _ }) rfl (fun K hK => ?_) AllReadyH.nil
  go_simp
  refine (dir_Format (nmD x) _ (HP.out _ hE)).mono ?_; rintro e w1 ⟨rfl, hb1⟩; replace hE := hE.trans hb1; clear hb1; rw [HF.out]
  try go_wp2_with fail
  refine hK.out _ _ ?_ (fun hHeld => ?_)
  · (try dsimp only); exact ⟨HA8.out.ext hE, HB8.out.ext hE⟩
  clear hK K
  (try simp only [Act.put, List.setIfInBounds_toArray, List.set_cons_zero, List.set_cons_succ])
  refine wpAnyH_take (i := 9) (oi := { dst := some 23, op := _, type := _, pos := _, after := _, guard := _ }) (v := ?_) rfl (by kernel_rfl) (by kernel_rfl) (by kernel_rfl) (fun _ _ _ h => h) (Or.inl ⟨by rfl, ?_⟩) (by assumption) ?_
  rotate_left
  · (intro w hSw; (try dsimp only at hSw); go_simp; (try with_reducible rfl))
  (try simp only [Act.put, List.setIfInBounds_toArray, List.set_cons_zero, List.set_cons_succ])
  refine wpAnyH_take (i := 10) (oi := { dst := some 24, op := _, type := _, pos := _, after := _, guard := _ }) (v := ?_) rfl (by kernel_rfl) (by kernel_rfl) (by kernel_rfl) (fun _ _ _ h => h) (Or.inl ⟨by rfl, ?_⟩) (by assumption) ?_
  rotate_left
  · (intro w hSw; (try dsimp only at hSw); go_simp; (try with_reducible rfl))
  (try simp only [Act.put, List.setIfInBounds_toArray, List.set_cons_zero, List.set_cons_succ])
  refine wpAnyH_take (i := 11) (oi := { dst := some 2, op := _, type := _, pos := _, after := _, guard := _ }) (v := ?_) rfl (by kernel_rfl) (by kernel_rfl) (by kernel_rfl) (fun _ _ _ h => h) (Or.inl ⟨by rfl, ?_⟩) (by assumption) ?_
  rotate_left
  · (intro w hSw; (try dsimp only at hSw); go_simp; (try with_reducible rfl))
  (try simp only [Act.put, List.setIfInBounds_toArray, List.set_cons_zero, List.set_cons_succ])
  refine wpAnyH_done (by kernel_rfl) ?_ _
  go_wp2_with fail
  go_ret
  exact ⟨rfl, HE8.out.trans hE⟩
end Go.Proofs.YtafmedphgmacaaaDoor
