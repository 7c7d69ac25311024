
/- The walks of quaysidebase.Clip, the law package's dated, LifetimeDates, LifetimeBroken. -/
import Derived.Test.YtjacgdjnocpodaaDoorL14a
import Derived.Test.YtjacgdjnocpodaaDoorSet
namespace Go.Proofs.YtjacgdjnocpodaaDoor
open Go.RowKit

theorem fmt_size {n : Int} (h0 : 0 ≤ n) (h1 : n ≤ 253402300799) : (fmtS n).size = 29 := by
  have h := dateP_fmtS h0 h1
  unfold dateP at h
  by_cases hs : (fmtS n).size = 29
  · exact hs
  · rw [if_neg hs] at h; cases h
theorem dat_sum {a b c : Int} (ha : 0 ≤ a ∧ a ≤ 253402300799) (hb : 0 ≤ b ∧ b ≤ 253402300799) (hc : 0 ≤ c ∧ c ≤ 253402300799) : sumF (datF a b c) = 111 := by
  unfold datF sumF
  simp only [List.map_cons, List.map_nil, List.sum_cons, List.sum_nil, fmt_size ha.1 ha.2, fmt_size hb.1 hb.2, fmt_size hc.1 hc.2]
  rfl
theorem sumF_remD (name : ByteArray) : ∀ fs : List Fd, sumF (remS fs name) ≤ sumF fs
  | [] => Nat.le_refl _
  | f :: r => by
    have := sumF_remD name r
    have e : ∀ (g : Fd) (l : List Fd), sumF (g :: l) = g.1.size + g.2.size + sumF l := fun g l => by simp [sumF]
    unfold remS at *
    rw [List.filter_cons]
    split
    · rw [e, e]; omega
    · rw [e]; omega
theorem sumF_setD (name value : ByteArray) : ∀ fs : List Fd, sumF (setS name value fs) ≤ sumF fs + name.size + value.size
  | [] => by simp [setS, sumF, lowS_size]
  | f :: r => by
    have e : ∀ (g : Fd) (l : List Fd), sumF (g :: l) = g.1.size + g.2.size + sumF l := fun g l => by simp [sumF]
    unfold setS
    split
    · have := sumF_remD name r
      rw [e, e]; simp only [lowS_size]; omega
    · have := sumF_setD name value r
      rw [e, e]; omega

/-! A date that is malformed, or there twice. -/
def nmB : List ByteArray := [dateN, expN]
def nmC : List ByteArray := [dateN, lmN]
theorem dateS_set {fs : List Fd} {name t : ByteArray} (h : dateP t = none) : dateS (setS name t fs) name = none := by
  unfold dateS; rw [allS_set_same]; exact h
theorem brk_set {a b c : Int} (st : Int) {t : ByteArray} (ht : dateP t = none) {k : Nat} (h : k < 2) : ofS st (setS (nmB[k]'h) t (datF a b c)) = (0, 3) := by
  have : k = 0 ∨ k = 1 := by omega
  rcases this with rfl | rfl
  · refine of_no_exp st ?_ ?_ (.inl (dateS_set ht))
    · show allS (setS dateN t _) ccN = []
      rw [allS_set_other _ d_cc_date.symm, all_cc_dat]
    · show hasF (setS dateN t _) expN = true
      unfold hasF; rw [allS_set_other _ d_date_exp, all_exp_dat]; rfl
  · refine of_no_exp st ?_ ?_ (.inr (dateS_set ht))
    · show allS (setS expN t _) ccN = []
      rw [allS_set_other _ d_cc_exp.symm, all_cc_dat]
    · show hasF (setS expN t _) expN = true
      unfold hasF; rw [allS_set_same]; rfl
theorem brk_add {a b c : Int} (st : Int) (t : ByteArray) {k : Nat} (h : k < 2) : ofS st (datF a b c ++ [(lowS (nmB[k]'h), t)]) = (0, 3) := by
  have : k = 0 ∨ k = 1 := by omega
  rcases this with rfl | rfl
  · refine of_no_exp st ?_ ?_ (.inl ?_)
    · show allS (_ ++ [(lowS dateN, t)]) ccN = []
      rw [allS_add_other _ _ d_cc_date.symm, all_cc_dat]
    · show hasF (_ ++ [(lowS dateN, t)]) expN = true
      unfold hasF; rw [allS_add_other _ _ d_date_exp, all_exp_dat]; rfl
    · show dateS (_ ++ [(lowS dateN, t)]) dateN = none
      unfold dateS; rw [allS_add_same, all_date_dat]; rfl
  · refine of_no_exp st ?_ ?_ (.inr ?_)
    · show allS (_ ++ [(lowS expN, t)]) ccN = []
      rw [allS_add_other _ _ d_cc_exp.symm, all_cc_dat]
    · show hasF (_ ++ [(lowS expN, t)]) expN = true
      unfold hasF; rw [allS_add_same, all_exp_dat]; rfl
    · show dateS (_ ++ [(lowS expN, t)]) expN = none
      unfold dateS; rw [allS_add_same, all_exp_dat]; rfl
theorem brk_heur {a b c : Int} (st : Int) {t : ByteArray} (ht : dateP t = none) {k : Nat} (h : k < 2) : ofS st (setS (nmC[k]'h) t (remS (datF a b c) expN)) = (0, 5) := by
  have : k = 0 ∨ k = 1 := by omega
  rcases this with rfl | rfl
  · refine of_no_heur st ?_ ?_ (.inl (dateS_set ht))
    · show allS (setS dateN t _) ccN = []
      rw [allS_set_other _ d_cc_date.symm, allS_rem_other _ d_cc_exp.symm, all_cc_dat]
    · show allS (setS dateN t _) expN = []
      rw [allS_set_other _ d_date_exp, allS_rem_same]
  · refine of_no_heur st ?_ ?_ (.inr (dateS_set ht))
    · show allS (setS lmN t _) ccN = []
      rw [allS_set_other _ d_cc_lm.symm, allS_rem_other _ d_cc_exp.symm, all_cc_dat]
    · show allS (setS lmN t _) expN = []
      rw [allS_set_other _ d_exp_lm.symm, allS_rem_same]
theorem nmB_small {k : Nat} (h : k < 2) : (nmB[k]'h).size ≤ 100 := by
  have : k = 0 ∨ k = 1 := by omega
  rcases this with rfl | rfl
  · show dateN.size ≤ 100; decide
  · show expN.size ≤ 100; decide
theorem nmC_small {k : Nat} (h : k < 2) : (nmC[k]'h).size ≤ 100 := by
  have : k = 0 ∨ k = 1 := by omega
  rcases this with rfl | rfl
  · show dateN.size ≤ 100; decide
  · show lmN.size ≤ 100; decide

theorem base_Clip (n lo hi : Int) (w : World) : Calls Tryd.prog 29 #[.int .i64 n, .int .i64 lo, .int .i64 hi] w fun e w' => e = .returned (.int .i64 (max lo (min n hi))) ∧ w' = w := by
  go_enter Tryd.func29, Tryd.ntmps29
  go_wp2_with fail
  go_ret
  exact ⟨rfl, rfl⟩

def bdN (S G C : Int) : Prop := 1073741824 ≤ S ∧ S ≤ 4294967296 ∧ -1048576 ≤ G ∧ G ≤ 1073741824 ∧ -1048576 ≤ C ∧ C ≤ 536870912
set_option maxHeartbeats 8000000 in
set_option maxRecDepth 100000 in
theorem law14_dated (s g c : Int) (w : World) (hg : GlH w) :
    Calls Tryd.prog 16 #[.agg #[.int .i64 s, .int .i64 g, .int .i64 c]] w fun e w' => ∃ A k S G C, e = .returned (.tuple #[.slice A 3 k, .int .i64 G, .int .i64 C, .bool true]) ∧ RdF w' A 3 (datF S (S + G) (S - C)) ∧ 3 ≤ k ∧ bdN S G C ∧ Ext w w' := by
  have hE0 := (Ext.refl w).alloc (.cells #[.int .i64 s, .int .i64 g, .int .i64 c] 35)
  have hB := Blk.new w 35 #[.int .i64 s, .int .i64 g, .int .i64 c]
  go_enter Tryd.func16, Tryd.ntmps16
  go_wp2_with fail
  generalize w.alloc (.cells #[.int .i64 s, .int .i64 g, .int .i64 c] 35) = W0 at *
  have HC := Lib.hid (show ∀ w', Ext W0 w' → (w'.cell? ⟨w.heap.size, 0, none⟩ = some (.int .i64 s) ∧ w'.cell? ⟨w.heap.size, 1, none⟩ = some (.int .i64 g) ∧ w'.cell? ⟨w.heap.size, 2, none⟩ = some (.int .i64 c)) from fun w' h => ⟨(hB.ext h).cell 0, (hB.ext h).cell 1, (hB.ext h).cell 2⟩)
  have HE := Lib.hid hE0
  clear hB hE0
  refine (base_Clip s 1073741824 4294967296 _).mono ?_; rintro e w1 ⟨rfl, rfl⟩
  go_wp2_with fail
  have hE := (Ext.refl w1).drew
  refine wp_region_held_drew (S := (fun w' => w'.cell? ⟨w.heap.size, 0, none⟩ = some (.int .i64 s) ∧ w'.cell? ⟨w.heap.size, 1, none⟩ = some (.int .i64 g) ∧ w'.cell? ⟨w.heap.size, 2, none⟩ = some (.int .i64 c))) (by kernel_rfl) ?_ (fun hHeld => ?_)
  · (try dsimp only); exact HC.out _ hE
  refine wpAnyH_take (i := 0) (oi := { dst := some 19, op := _, type := _, pos := _, after := _, guard := _ }) (v := ?_) rfl (by kernel_rfl) (by kernel_rfl) (by kernel_rfl) (fun _ _ _ h => h) (Or.inl ⟨by rfl, ?_⟩) (by assumption) ?_
  rotate_left
  · (intro w hSw; (try dsimp only at hSw); go_simp; (try with_reducible rfl))
  (try simp only [Act.put, List.setIfInBounds_toArray, List.set_cons_zero, List.set_cons_succ])
  refine wpAnyH_take (i := 1) (oi := { dst := some 20, op := _, type := _, pos := _, after := _, guard := _ }) (v := ?_) rfl (by kernel_rfl) (by kernel_rfl) (by kernel_rfl) (fun _ _ _ h => h) (Or.inl ⟨by rfl, ?_⟩) (by assumption) ?_
  rotate_left
  · (intro w hSw; (try dsimp only at hSw); go_simp; (try with_reducible rfl))
  (try simp only [Act.put, List.setIfInBounds_toArray, List.set_cons_zero, List.set_cons_succ])
  refine wpAnyH_take (i := 3) (oi := { dst := some 22, op := _, type := _, pos := _, after := _, guard := _ }) (v := ?_) rfl (by kernel_rfl) (by kernel_rfl) (by kernel_rfl) (fun _ _ _ h => h) (Or.inl ⟨by rfl, ?_⟩) (by assumption) ?_
  rotate_left
  · (intro w hSw; (try dsimp only at hSw); go_simp; (try with_reducible rfl))
  (try simp only [Act.put, List.setIfInBounds_toArray, List.set_cons_zero, List.set_cons_succ])
  refine wpAnyH_take (i := 4) (oi := { dst := some 23, op := _, type := _, pos := _, after := _, guard := _ }) (v := ?_) rfl (by kernel_rfl) (by kernel_rfl) (by kernel_rfl) (fun _ _ _ h => h) (Or.inl ⟨by rfl, ?_⟩) (by assumption) ?_
  rotate_left
  · (intro w hSw; (try dsimp only at hSw); go_simp; (try with_reducible rfl))
  (try simp only [Act.put, List.setIfInBounds_toArray, List.set_cons_zero, List.set_cons_succ])
  refine wpAnyH_ready (rs := [2]) (by kernel_rfl) (by simp) ?_
  refine AllReadyH.cons (o := { dst := some 21, op := _, type := _, pos := _, after := _, guard := _ }) rfl (fun K hK => ?_) AllReadyH.nil
  go_simp
  refine (base_Clip g (-1048576) 1073741824 _).mono ?_; rintro e w2 ⟨rfl, rfl⟩
  try go_wp2_with fail
  refine hK.out _ _ ?_ (fun hHeld => ?_)
  · (try dsimp only); exact HC.out _ hE
  clear hK K
  (try simp only [Act.put, List.setIfInBounds_toArray, List.set_cons_zero, List.set_cons_succ])
  refine wpAnyH_ready (rs := [5]) (by kernel_rfl) (by simp) ?_
  refine AllReadyH.cons (o := { dst := some 24, op := _, type := _, pos := _, after := _, guard := _ }) rfl (fun K hK => ?_) AllReadyH.nil
  go_simp
  refine (base_Clip c (-1048576) 536870912 _).mono ?_; rintro e w2 ⟨rfl, rfl⟩
  try go_wp2_with fail
  refine hK.out _ _ ?_ (fun hHeld => ?_)
  · (try dsimp only); exact HC.out _ hE
  clear hK K
  (try simp only [Act.put, List.setIfInBounds_toArray, List.set_cons_zero, List.set_cons_succ])
  refine wpAnyH_take (i := 6) (oi := { dst := some 7, op := _, type := _, pos := _, after := _, guard := _ }) (v := ?_) rfl (by kernel_rfl) (by kernel_rfl) (by kernel_rfl) (fun _ _ _ h => h) (Or.inl ⟨by rfl, ?_⟩) (by assumption) ?_
  rotate_left
  · (intro w hSw; (try dsimp only at hSw); go_simp; (try with_reducible rfl))
  (try simp only [Act.put, List.setIfInBounds_toArray, List.set_cons_zero, List.set_cons_succ])
  refine wpAnyH_take (i := 7) (oi := { dst := some 8, op := _, type := _, pos := _, after := _, guard := _ }) (v := ?_) rfl (by kernel_rfl) (by kernel_rfl) (by kernel_rfl) (fun _ _ _ h => h) (Or.inl ⟨by rfl, ?_⟩) (by assumption) ?_
  rotate_left
  · (intro w hSw; (try dsimp only at hSw); go_simp; (try with_reducible rfl))
  (try simp only [Act.put, List.setIfInBounds_toArray, List.set_cons_zero, List.set_cons_succ])
  refine wpAnyH_done (by kernel_rfl) ?_ _
  have HE1 := Lib.hid (HE.out.trans hE)
  have hbd : bdN (max 1073741824 (min s 4294967296)) (max (-1048576) (min g 1073741824)) (max (-1048576) (min c 536870912)) := by unfold bdN; omega
  generalize max 1073741824 (min s 4294967296) = S at *
  generalize max (-1048576) (min g 1073741824) = G at *
  generalize max (-1048576) (min c 536870912) = C at *
  have Hbd := Lib.hid hbd
  obtain ⟨s0, s1, g0, g1, c0, c1⟩ := hbd
  have hgg := HE1.out
  generalize w1.drew = w3 at *
  have HG := Lib.hid (fun w' (h : Ext w3 w') => hg.ext (hgg.trans h))
  clear hE HC HE hHeld hgg hg
  go_wp2_with fail
  refine (http_Format S _ (by omega) (by omega) (HG.out _ (Ext.refl _))).mono ?_; rintro e w4 ⟨rfl, hb4⟩
  go_wp2_with fail
  refine (http_Format (S + G) _ (by omega) (by omega) (HG.out _ hb4)).mono ?_; rintro e w5 ⟨rfl, hb5⟩
  go_wp2_with fail
  refine (http_Format (S - C) _ (by omega) (by omega) (HG.out _ (hb4.trans hb5))).mono ?_; rintro e w6 ⟨rfl, hb6⟩
  have h6 := (hb4.trans hb5).trans hb6
  have hr : RdF (w6.alloc (.cells (fldCells (datF S (S + G) (S - C))).toArray 57)) (some ⟨w6.heap.size, 0, none⟩) 3 (datF S (S + G) (S - C)) := Rd.lit w6 _ _ rfl 2 3 rfl
  have h7 := h6.alloc (.cells (fldCells (datF S (S + G) (S - C))).toArray 57)
  have Hr := Lib.hid hr
  have H7 := Lib.hid h7
  clear hr h7
  go_wp2_with fail
  have hE := (Ext.refl (w6.alloc (.cells (fldCells (datF S (S + G) (S - C))).toArray 57))).drew
  refine wp_region_held_drew (S := (fun _ => True)) (by kernel_rfl) ?_ (fun hHeld => ?_)
  · (try dsimp only); (try trivial)
  refine wpAnyH_take (i := 0) (oi := { dst := some 51, op := _, type := _, pos := _, after := _, guard := _ }) (v := ?_) rfl (by kernel_rfl) (by kernel_rfl) (by kernel_rfl) (fun _ _ _ h => h) (Or.inl ⟨by rfl, ?_⟩) (by assumption) ?_
  rotate_left
  · (intro w hSw; (try dsimp only at hSw); go_simp; (try with_reducible rfl))
  (try simp only [Act.put, List.setIfInBounds_toArray, List.set_cons_zero, List.set_cons_succ])
  refine wpAnyH_take (i := 1) (oi := { dst := some 52, op := _, type := _, pos := _, after := _, guard := _ }) (v := ?_) rfl (by kernel_rfl) (by kernel_rfl) (by kernel_rfl) (fun _ _ _ h => h) (Or.inl ⟨by rfl, ?_⟩) (by assumption) ?_
  rotate_left
  · (intro w hSw; (try dsimp only at hSw); go_simp; (try with_reducible rfl))
  (try simp only [Act.put, List.setIfInBounds_toArray, List.set_cons_zero, List.set_cons_succ])
  refine wpAnyH_take (i := 2) (oi := { dst := some 53, op := _, type := _, pos := _, after := _, guard := _ }) (v := ?_) rfl (by kernel_rfl) (by kernel_rfl) (by kernel_rfl) (fun _ _ _ h => h) (Or.inl ⟨by rfl, ?_⟩) (by assumption) ?_
  rotate_left
  · (intro w hSw; (try dsimp only at hSw); go_simp; (try with_reducible rfl))
  (try simp only [Act.put, List.setIfInBounds_toArray, List.set_cons_zero, List.set_cons_succ])
  refine wpAnyH_take (i := 3) (oi := { dst := some 54, op := _, type := _, pos := _, after := _, guard := _ }) (v := ?_) rfl (by kernel_rfl) (by kernel_rfl) (by kernel_rfl) (fun _ _ _ h => h) (Or.inl ⟨by rfl, ?_⟩) (by assumption) ?_
  rotate_left
  · (intro w hSw; (try dsimp only at hSw); go_simp; (try with_reducible rfl))
  (try simp only [Act.put, List.setIfInBounds_toArray, List.set_cons_zero, List.set_cons_succ])
  refine wpAnyH_take (i := 4) (oi := { dst := some 55, op := _, type := _, pos := _, after := _, guard := _ }) (v := ?_) rfl (by kernel_rfl) (by kernel_rfl) (by kernel_rfl) (fun _ _ _ h => h) (Or.inl ⟨by rfl, ?_⟩) (by assumption) ?_
  rotate_left
  · (intro w hSw; (try dsimp only at hSw); go_simp; (try with_reducible rfl))
  (try simp only [Act.put, List.setIfInBounds_toArray, List.set_cons_zero, List.set_cons_succ])
  refine wpAnyH_take (i := 5) (oi := { dst := some 56, op := _, type := _, pos := _, after := _, guard := _ }) (v := ?_) rfl (by kernel_rfl) (by kernel_rfl) (by kernel_rfl) (fun _ _ _ h => h) (Or.inl ⟨by rfl, ?_⟩) (by assumption) ?_
  rotate_left
  · (intro w hSw; (try dsimp only at hSw); go_simp; (try with_reducible rfl))
  (try simp only [Act.put, List.setIfInBounds_toArray, List.set_cons_zero, List.set_cons_succ])
  refine wpAnyH_take (i := 6) (oi := { dst := some 57, op := _, type := _, pos := _, after := _, guard := _ }) (v := ?_) rfl (by kernel_rfl) (by kernel_rfl) (by kernel_rfl) (fun _ _ _ h => h) (Or.inl ⟨by rfl, ?_⟩) (by assumption) ?_
  rotate_left
  · (intro w hSw; (try dsimp only at hSw); go_simp; (try with_reducible rfl))
  (try simp only [Act.put, List.setIfInBounds_toArray, List.set_cons_zero, List.set_cons_succ])
  refine wpAnyH_take (i := 7) (oi := { dst := some 58, op := _, type := _, pos := _, after := _, guard := _ }) (v := ?_) rfl (by kernel_rfl) (by kernel_rfl) (by kernel_rfl) (fun _ _ _ h => h) (Or.inl ⟨by rfl, ?_⟩) (by assumption) ?_
  rotate_left
  · (intro w hSw; (try dsimp only at hSw); go_simp; (try with_reducible rfl))
  (try simp only [Act.put, List.setIfInBounds_toArray, List.set_cons_zero, List.set_cons_succ])
  refine wpAnyH_take (i := 8) (oi := { dst := some 59, op := _, type := _, pos := _, after := _, guard := _ }) (v := ?_) rfl (by kernel_rfl) (by kernel_rfl) (by kernel_rfl) (fun _ _ _ h => h) (Or.inl ⟨by rfl, ?_⟩) (by assumption) ?_
  rotate_left
  · (intro w hSw; (try dsimp only at hSw); go_simp; (try with_reducible rfl))
  (try simp only [Act.put, List.setIfInBounds_toArray, List.set_cons_zero, List.set_cons_succ])
  refine wpAnyH_take (i := 9) (oi := { dst := some 60, op := _, type := _, pos := _, after := _, guard := _ }) (v := ?_) rfl (by kernel_rfl) (by kernel_rfl) (by kernel_rfl) (fun _ _ _ h => h) (Or.inl ⟨by rfl, ?_⟩) (by assumption) ?_
  rotate_left
  · (intro w hSw; (try dsimp only at hSw); go_simp; (try with_reducible rfl))
  (try simp only [Act.put, List.setIfInBounds_toArray, List.set_cons_zero, List.set_cons_succ])
  refine wpAnyH_take (i := 10) (oi := { dst := some 61, op := _, type := _, pos := _, after := _, guard := _ }) (v := ?_) rfl (by kernel_rfl) (by kernel_rfl) (by kernel_rfl) (fun _ _ _ h => h) (Or.inl ⟨by rfl, ?_⟩) (by assumption) ?_
  rotate_left
  · (intro w hSw; (try dsimp only at hSw); go_simp; (try with_reducible rfl))
  (try simp only [Act.put, List.setIfInBounds_toArray, List.set_cons_zero, List.set_cons_succ])
  refine wpAnyH_take (i := 11) (oi := { dst := some 62, op := _, type := _, pos := _, after := _, guard := _ }) (v := ?_) rfl (by kernel_rfl) (by kernel_rfl) (by kernel_rfl) (fun _ _ _ h => h) (Or.inl ⟨by rfl, ?_⟩) (by assumption) ?_
  rotate_left
  · (intro w hSw; (try dsimp only at hSw); go_simp; (try with_reducible rfl))
  (try simp only [Act.put, List.setIfInBounds_toArray, List.set_cons_zero, List.set_cons_succ])
  refine wpAnyH_take (i := 12) (oi := { dst := some 63, op := _, type := _, pos := _, after := _, guard := _ }) (v := ?_) rfl (by kernel_rfl) (by kernel_rfl) (by kernel_rfl) (fun _ _ _ h => h) (Or.inl ⟨by rfl, ?_⟩) (by assumption) ?_
  rotate_left
  · (intro w hSw; (try dsimp only at hSw); go_simp; (try with_reducible rfl))
  (try simp only [Act.put, List.setIfInBounds_toArray, List.set_cons_zero, List.set_cons_succ])
  refine wpAnyH_take (i := 13) (oi := { dst := some 2, op := _, type := _, pos := _, after := _, guard := _ }) (v := ?_) rfl (by kernel_rfl) (by kernel_rfl) (by kernel_rfl) (fun _ _ _ h => h) (Or.inl ⟨by rfl, ?_⟩) (by assumption) ?_
  rotate_left
  · (intro w hSw; (try dsimp only at hSw); go_simp; (try with_reducible rfl))
  (try simp only [Act.put, List.setIfInBounds_toArray, List.set_cons_zero, List.set_cons_succ])
  refine wpAnyH_take (i := 14) (oi := { dst := some 3, op := _, type := _, pos := _, after := _, guard := _ }) (v := ?_) rfl (by kernel_rfl) (by kernel_rfl) (by kernel_rfl) (fun _ _ _ h => h) (Or.inl ⟨by rfl, ?_⟩) (by assumption) ?_
  rotate_left
  · (intro w hSw; (try dsimp only at hSw); go_simp; (try with_reducible rfl))
  (try simp only [Act.put, List.setIfInBounds_toArray, List.set_cons_zero, List.set_cons_succ])
  refine wpAnyH_take (i := 15) (oi := { dst := some 4, op := _, type := _, pos := _, after := _, guard := _ }) (v := ?_) rfl (by kernel_rfl) (by kernel_rfl) (by kernel_rfl) (fun _ _ _ h => h) (Or.inl ⟨by rfl, ?_⟩) (by assumption) ?_
  rotate_left
  · (intro w hSw; (try dsimp only at hSw); go_simp; (try with_reducible rfl))
  (try simp only [Act.put, List.setIfInBounds_toArray, List.set_cons_zero, List.set_cons_succ])
  refine wpAnyH_take (i := 16) (oi := { dst := some 5, op := _, type := _, pos := _, after := _, guard := _ }) (v := ?_) rfl (by kernel_rfl) (by kernel_rfl) (by kernel_rfl) (fun _ _ _ h => h) (Or.inl ⟨by rfl, ?_⟩) (by assumption) ?_
  rotate_left
  · (intro w hSw; (try dsimp only at hSw); go_simp; (try with_reducible rfl))
  (try simp only [Act.put, List.setIfInBounds_toArray, List.set_cons_zero, List.set_cons_succ])
  refine wpAnyH_done (by kernel_rfl) ?_ _
  go_wp2_with fail
  refine bodyPost_ret (results_tmp4 rfl _ _ _) rfl ?_
  exact ⟨_, _, S, G, C, rfl, Hr.out.ext hE, Nat.le_refl _, Hbd.out, (HE1.out.trans H7.out).trans hE⟩

set_option maxHeartbeats 8000000 in
set_option maxRecDepth 100000 in
theorem dates_walk (s g c st : Int) (w : World) (hg : GlH w) (hgl : Gl w) :
    Calls Tryd.prog 5 #[.agg #[.int .i64 s, .int .i64 g, .int .i64 c], .int .i64 st] w fun e w' => e = .returned (.bool true) ∧ Ext w w' := by
  have hE0 := (Ext.refl w).alloc (.cells #[.int .i64 s, .int .i64 g, .int .i64 c] 35)
  have hB := Blk.new w 35 #[.int .i64 s, .int .i64 g, .int .i64 c]
  have b0 : (w.alloc (.cells #[.int .i64 s, .int .i64 g, .int .i64 c] 35)).cell? ⟨w.heap.size, 0, none⟩ = some (.int .i64 s) := hB.cell 0
  have b1 : (w.alloc (.cells #[.int .i64 s, .int .i64 g, .int .i64 c] 35)).cell? ⟨w.heap.size, 1, none⟩ = some (.int .i64 g) := hB.cell 1
  have b2 : (w.alloc (.cells #[.int .i64 s, .int .i64 g, .int .i64 c] 35)).cell? ⟨w.heap.size, 2, none⟩ = some (.int .i64 c) := hB.cell 2
  clear hB
  have HE := Lib.hid hE0
  go_enter Tryd.func5, Tryd.ntmps5
  go_wp2_with fail
  refine (law14_dated s g c _ (hg.ext HE.out)).mono ?_; rintro e w1 ⟨A, k, S, G, C, rfl, hr, hk, hbd, hb1⟩
  have h1 := HE.out.trans hb1
  clear b0 b1 b2 hE0
  obtain ⟨s0, s1, g0, g1, c0, c1⟩ := hbd
  have hsum := dat_sum (a := S) (b := S + G) (c := S - C) (by omega) (by omega) (by omega)
  have hO := of_dates (a := S) (b := S + G) (c := S - C) st (by omega) (by omega)
  rw [show S + G - S = G by omega] at hO
  have hH := of_heur_dat (a := S) (b := S + G) (c := S - C) st (by omega) (by omega)
  rw [show S - (S - C) = C by omega, show decide (S - C < S) = decide (0 < C) from decide_eq_decide.2 (by omega)] at hH
  have hneg := @neg_cac st
  have HC := Lib.hid (life_Cacheable st)
  have hO2 := fun w' h => life_Of st A 3 k (datF S (S + G) (S - C)) w' (hr.ext h) (by decide) ((bsz_of_sumF _).mono (by omega)) (hg.ext (h1.trans h)) (by omega) (hgl.ext (h1.trans h))
  have hrem := fun w' h => field_Remove A 3 k (datF S (S + G) (S - C)) expN w' (hr.ext h) (by decide) (by decide) ((bsz_of_sumF _).mono (by omega))
  have hrs := sumF_remD expN (datF S (S + G) (S - C))
  have hrl := remS_le (datF S (S + G) (S - C)) expN
  rw [show (datF S (S + G) (S - C)).length = 3 from rfl] at hrl
  rw [hsum] at hrs
  rw [hO] at hO2
  generalize datF S (S + G) (S - C) = FS at *
  have HO2 := Lib.hid hO2
  have Hrem := Lib.hid hrem
  have Hrs := Lib.hid (⟨hrs, hrl⟩ : _ ∧ _)
  have Hneg := Lib.hid hneg
  have HH := Lib.hid hH
  clear hO2 hrem hrs hrl hneg hH hsum hO
  have z1 : ((3 : Int) != 3) = false := by decide
  have z2 : (1000 * max 0 G != 1000 * max 0 G) = false := by simp
  go_wp2_with fail
  refine (law14_awake _ (hg.ext h1) (hgl.ext h1)).mono ?_; rintro e w2 ⟨rfl, hb2⟩
  go_wp2_with fail
  refine (HO2.out _ hb2).mono ?_; rintro e w3 ⟨rfl, hb3⟩
  have h3 := hb2.trans hb3
  rw [show pairV (1000 * max 0 G, 3) = .tuple #[.int .i64 (1000 * max 0 G), .int .i64 3] from rfl]
  go_wp2_with fail
  refine (Hrem.out _ h3).mono ?_; rintro e w4 ⟨A4, n4, k4, rfl, hr4, hk4, hb4, _⟩
  have h4 := h3.trans hb4
  have hn4 : n4 ≤ 3 := by have := hr4.lenF; have := Hrs.out.2; omega
  go_wp2_with fail
  refine (life_Of st A4 n4 k4 _ _ hr4 (by omega) ((bsz_of_sumF _).mono (by have := Hrs.out.1; omega)) (hg.ext (h1.trans h4)) (by have := Hrs.out.1; omega) (hgl.ext (h1.trans h4))).mono ?_; rintro e w5 ⟨rfl, hb5⟩
  have h5 := h4.trans hb5
  rw [HH.out]
  generalize cacS st = Q at *
  cases Q
  · rw [Bool.false_and, if_neg (by decide), show pairV (0, 5) = .tuple #[.int .i64 0, .int .i64 5] from rfl]
    go_wp2_with fail
    refine (HC.out _).mono ?_; rintro e w6 ⟨rfl, rfl⟩
    go_wp2_with fail
    go_ret
    exact ⟨rfl, h1.trans h5⟩
  by_cases hc : 0 < C
  rotate_left
  · rw [decide_eq_false hc, Bool.and_false, if_neg (by decide), show pairV (0, 5) = .tuple #[.int .i64 0, .int .i64 5] from rfl]
    have hc2 : C ≤ 0 := by omega
    go_wp2_with fail
    refine (HC.out _).mono ?_; rintro e w6 ⟨rfl, rfl⟩
    go_wp2_with fail
    go_ret
    exact ⟨rfl, h1.trans h5⟩
  rw [decide_eq_true hc, Bool.and_true, if_pos rfl, Hneg.out rfl]
  have hc2 : ¬ C ≤ 0 := by omega
  have hq : 1000 * C / 10 = 100 * C := by omega
  rw [hq]
  by_cases h400 : 400 ≤ st
  · rw [decide_eq_true h400, if_pos rfl]
    have hv : min (min (100 * C) 86400000) 10000 = min 10000 (100 * C) := by omega
    generalize hX : min 10000 (100 * C) = X at *
    have zx : (X == X) = true := by simp
    have HX := Lib.hid hX
    clear hX
    rw [show pairV (X, 4) = .tuple #[.int .i64 X, .int .i64 4] from rfl]
    go_wp2_with fail
    refine (HC.out _).mono ?_; rintro e w6 ⟨rfl, rfl⟩
    go_wp2_with fail
    go_ret
    exact ⟨rfl, h1.trans h5⟩
  · rw [decide_eq_false h400, if_neg (by decide)]
    have hv : min (100 * C) 86400000 = min 86400000 (100 * C) := by omega
    generalize hX : min 86400000 (100 * C) = X at *
    have zx : (X == X) = true := by simp
    have HX := Lib.hid hX
    clear hX
    rw [show pairV (X, 4) = .tuple #[.int .i64 X, .int .i64 4] from rfl]
    go_wp2_with fail
    refine (HC.out _).mono ?_; rintro e w6 ⟨rfl, rfl⟩
    go_wp2_with fail
    go_ret
    exact ⟨rfl, h1.trans h5⟩
end Go.Proofs.YtjacgdjnocpodaaDoor
