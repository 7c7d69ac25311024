/- The walk of quaysideref11.with. -/
import Derived.Test.YtphgaommokgfcaaGreatDoorJ1
import Derived.Outline
set_option linter.unusedSimpArgs false
set_option linter.unusedVariables false
namespace Go.Proofs.YtphgaommokgfcaaGreatDoor
open Go.RowKit

theorem dArr_one (d : D) : (dArr d).all (·.oneCell') = true := by simp [dArr, Value.oneCell']
theorem dArr_size (d : D) : (dArr d).size = 12 := rfl

theorem idx_one (l : List UInt8) (c : UInt8) : Lib.index l [c] = if (l.takeWhile (· != c)).length < l.length then ((l.takeWhile (· != c)).length : Int) else -1 := by
  induction l with
  | nil => rfl
  | cons x r ih =>
    unfold Lib.index
    by_cases h : x = c
    · subst h
      have e : List.isPrefixOf [x] (x :: r) = true := by simp [List.isPrefixOf]
      rw [if_pos e]
      simp
    · have e : List.isPrefixOf [c] (x :: r) = false := by simp [List.isPrefixOf]; exact fun e => h e.symm
      rw [e, if_neg (by simp)]
      have ht : (x :: r).takeWhile (· != c) = x :: r.takeWhile (· != c) := by simp [h]
      rw [ht]
      simp only [List.length_cons]
      by_cases h2 : (r.takeWhile (· != c)).length < r.length
      · rw [if_pos h2] at ih
        rw [ih, if_neg (by rw [beq_iff_eq]; omega), if_pos (by omega)]; omega
      · rw [if_neg h2] at ih
        rw [ih, if_pos (by decide), if_neg (by omega)]
theorem tw_len (l : List UInt8) (c : UInt8) {k : Nat} (hk : k ≤ l.length) (h : ∀ j (hj : j < l.length), j < k → l[j] ≠ c) (he : k = l.length ∨ ∃ hj : k < l.length, l[k] = c) : (l.takeWhile (· != c)).length = k := by
  induction l generalizing k with
  | nil => simp at hk; subst hk; rfl
  | cons x r ih =>
    cases k with
    | zero =>
      rcases he with he | ⟨hj, he⟩
      · simp at he
      · have : x = c := he
        subst this; simp
    | succ k =>
      have hx : x ≠ c := h 0 (Nat.succ_pos _) (Nat.succ_pos _)
      have ht : (x :: r).takeWhile (· != c) = x :: r.takeWhile (· != c) := by simp [hx]
      rw [ht, List.length_cons, ih (k := k) (by simpa using hk) (fun j hj hjk => h (j + 1) (by simpa using hj) (by omega)) (by
        rcases he with he | ⟨hj, he⟩
        · exact .inl (by simpa using he)
        · exact .inr ⟨by simpa using hj, he⟩)]
theorem bytes_eta {l : List UInt8} {b : ByteArray} (h : b.data.toList = l) : (⟨l.toArray⟩ : ByteArray) = b := bytes_ext (by rw [← h])
theorem name_at {x : ByteArray} {k : Nat} (hk : k ≤ x.size) (h : ∀ j (hj : j < x.size), j < k → ¬ (x[j].toNat : Int) = 61) (he : k = x.size ∨ ∃ hj : k < x.size, (x[k].toNat : Int) = 61) :
    eqName x = x.extract 0 k ∧ thE x = decide (k < x.size) ∧ (k < x.size → argE x = x.extract (k + 1) x.size) := by
  have hl : x.data.toList.length = x.size := by simp
  have ht : (x.data.toList.takeWhile (· != 61)).length = k := tw_len _ _ (by omega)
    (fun j hj hjk e => h j (by omega) hjk (by show ((x.data[j]'_).toNat : Int) = 61; rw [Array.getElem_toList] at e; rw [e]; rfl))
    (by
      rcases he with he | ⟨hj, he⟩
      · exact .inl (by omega)
      · exact .inr ⟨by omega, by rw [Array.getElem_toList]; exact u8_of 61 he⟩)
  have hi := idx_one x.data.toList 61
  rw [ht, hl] at hi
  unfold eqName thE argE Lib.cut
  rw [hi]
  by_cases hlt : k < x.size
  · rw [if_pos hlt, if_pos (by omega)]
    refine ⟨bytes_eta ?_, by simp [hlt], fun _ => bytes_eta ?_⟩
    · rw [ext_take]; simp
    · rw [ext_drop]; simp
  · rw [if_neg hlt, if_neg (by omega)]
    refine ⟨bytes_eta ?_, by simp [hlt], fun h => absurd h hlt⟩
    rw [ext_take, List.take_of_length_le (by omega)]

theorem timeK_no {s : ByteArray} (a b : Int) : timeV s false a b = b := rfl
theorem timeK_yes {s : ByteArray} (a b : Int) (h : okQ s = true) : timeV s true a b = numQ s := by unfold timeV; rw [h]; rfl
theorem timeK_bad {s : ByteArray} (a b : Int) (h : okQ s = false) : timeV s true a b = a := by unfold timeV; rw [h]; rfl
theorem at_step {x : ByteArray} {k : Nat} (h : ∀ j (hj : j < x.size), j < k → ¬ (x[j].toNat : Int) = 61) (hk : k < x.size) (h1 : ¬ (x[k].toNat : Int) = 61) : ∀ j (hj : j < x.size), j < k + 1 → ¬ (x[j].toNat : Int) = 61 := by
  intro j hj hjk
  rcases Nat.lt_or_ge j k with hl | hg
  · exact h j hj hl
  · obtain rfl : j = k := by omega
    exact h1
def zeroD : D := ⟨false, false, false, false, false, false, 0, 0, 0, 0, 0, 0⟩

theorem infoD : (Tryz.prog.info? 48).map (·.size) = some 12 := by kernel_rfl
set_option maxHeartbeats 1000000 in
set_option maxRecDepth 100000 in
theorem with_0_0 (d : D) (x L : ByteArray) (w : World) (hs : x.size ≤ 1048576) (hth : Hid (thE x = false)) (hL : Hid (lowS (eqName x) = L)) (h0 : (L.toList == [110, 111, 45, 115, 116, 111, 114, 101]) = true) :
    Calls Tryz.prog 57 #[.agg (dArr d), .string x] w fun e w' => e = .returned (.agg (dArr (stepD d x))) ∧ Ext w w' := by
  have Hk := Lib.hid (show stepD d x = stepK d 0 0 2147483647 2147483647 by unfold stepD; rw [hL.out, kind_0 h0, hth.out, timeK_no 0 0, timeK_no 0 2147483647, timeK_no 2147483647 2147483647])
  have hA : Blk ((w.alloc (.cells (dArr d) 48)).alloc (.cells #[.bool false, .bool false, .bool false, .bool false, .bool false, .bool false, .int .i64 0, .int .i64 0, .int .i64 0, .int .i64 0, .int .i64 0, .int .i64 0] 48)) w.heap.size 48 (dArr d) := (Blk.new w _ _).alloc _
  have hB : Blk ((w.alloc (.cells (dArr d) 48)).alloc (.cells #[.bool false, .bool false, .bool false, .bool false, .bool false, .bool false, .int .i64 0, .int .i64 0, .int .i64 0, .int .i64 0, .int .i64 0, .int .i64 0] 48)) (w.heap.size + 1) 48 #[.bool false, .bool false, .bool false, .bool false, .bool false, .bool false, .int .i64 0, .int .i64 0, .int .i64 0, .int .i64 0, .int .i64 0, .int .i64 0] := by have := Blk.new (w.alloc (.cells (dArr d) 48)) 48 #[.bool false, .bool false, .bool false, .bool false, .bool false, .bool false, .int .i64 0, .int .i64 0, .int .i64 0, .int .i64 0, .int .i64 0, .int .i64 0]; rwa [World.size_alloc] at this
  have hE : Ext w ((w.alloc (.cells (dArr d) 48)).alloc (.cells #[.bool false, .bool false, .bool false, .bool false, .bool false, .bool false, .int .i64 0, .int .i64 0, .int .i64 0, .int .i64 0, .int .i64 0, .int .i64 0] 48)) := ((Ext.refl w).alloc _).alloc _
  have HA0 := Lib.hid hA; have HB0 := Lib.hid hB; have HE0 := Lib.hid hE; clear hA hB hE
  go_enter Tryz.func57, Tryz.ntmps57
  go_wp2_with fail
  generalize (w.alloc (.cells (dArr d) 48)).alloc (.cells #[.bool false, .bool false, .bool false, .bool false, .bool false, .bool false, .int .i64 0, .int .i64 0, .int .i64 0, .int .i64 0, .int .i64 0, .int .i64 0] 48) = W0 at *
  go_loop [5] (fun i => ∃ k : Nat, k ≤ x.size ∧ i = .int .i64 k ∧ ∀ j (hj : j < x.size), j < k → ¬ (x[j].toNat : Int) = 61) (fun i => x.size - (intOf i).toNat)
  case atStart => exact ⟨0, Nat.zero_le _, rfl, fun j _ h => absurd h (Nat.not_lt_zero _)⟩
  case round =>
    obtain ⟨k, hk, rfl, hall⟩ := hrel
    have Hall := Lib.hid hall; clear hall
    by_cases hlt : k < x.size
    · by_cases h61 : (x[k].toNat : Int) = 61
      · have Hnm := Lib.hid (name_at hk Hall.out (.inr ⟨hlt, h61⟩))
        exact absurd (hth.out.symm.trans Hnm.out.2.1) (by simp [hlt])
      · have Hst := Lib.hid (at_step Hall.out hlt h61)
        have hne : ((x[k].toNat : Int) != 61) = true := by simp [h61]
        go_wp2_with fail
        go_round
        case rel => exact ⟨k + 1, by omega, by go_num, Hst.out⟩
        case measure => simp [intOf]; omega
    · have Hnm := Lib.hid (name_at hk Hall.out (.inl (by omega)))
      go_wp2_with fail
      refine (ref_Lower _ _ (by rw [ByteArray.size_extract]; omega)).mono ?_; rintro e w1 ⟨rfl, hb1⟩
      rw [← Hnm.out.1, hL.out]
      have HA := Lib.hid (HA0.out.ext hb1)
      have HB := Lib.hid (HB0.out.ext hb1)
      have HE := Lib.hid (HE0.out.trans hb1)
      skip
      have hcl : w1.cell? ⟨w.heap.size, 0, none⟩ = some (.bool d.b0) := HA.out.cell 0
      have hfz := HA.out.frozen 0
      go_wp2_with (first
        | (refine wpList_loadB rfl 48 (.tmp 2) rfl w.heap.size rfl 48 _ (HA.out.set_ 0 (.bool true)) _ Tryz.underlying48 infoD ?_)
        | (refine wpList_storeB rfl 48 (.tmp 4) (.tmp 107) rfl rfl (w.heap.size + 1) _ rfl rfl 48 _ (HB.out.far (by simp) _) infoD rfl (dArr_one { d with b0 := true }) ?_; intro w9 hB9 hx9))
      exact bodyPost_ret (v := .agg (dArr { d with b0 := true })) (results_cell_row rfl _ _ (w.heap.size + 1) 48 _ (0, 0) _ rfl hB9 Tryz.underlying48 rfl infoD) rfl ⟨congrArg (fun z => Ending.returned (.agg (dArr z))) Hk.out.symm, (HE.out.setCell (p := ⟨w.heap.size, 0, none⟩) (Nat.le_refl _) _).growB hx9 (by omega)⟩
set_option maxHeartbeats 1000000 in
set_option maxRecDepth 100000 in
theorem with_0_1 (d : D) (x L : ByteArray) (w : World) (hs : x.size ≤ 1048576) (hth : Hid (thE x = false)) (hL : Hid (lowS (eqName x) = L)) (h0 : (L.toList == [110, 111, 45, 115, 116, 111, 114, 101]) = false) (h1 : (L.toList == [110, 111, 45, 99, 97, 99, 104, 101]) = true) :
    Calls Tryz.prog 57 #[.agg (dArr d), .string x] w fun e w' => e = .returned (.agg (dArr (stepD d x))) ∧ Ext w w' := by
  have Hk := Lib.hid (show stepD d x = stepK d 1 0 2147483647 2147483647 by unfold stepD; rw [hL.out, kind_1 h0 h1, hth.out, timeK_no 0 0, timeK_no 0 2147483647, timeK_no 2147483647 2147483647])
  have hA : Blk ((w.alloc (.cells (dArr d) 48)).alloc (.cells #[.bool false, .bool false, .bool false, .bool false, .bool false, .bool false, .int .i64 0, .int .i64 0, .int .i64 0, .int .i64 0, .int .i64 0, .int .i64 0] 48)) w.heap.size 48 (dArr d) := (Blk.new w _ _).alloc _
  have hB : Blk ((w.alloc (.cells (dArr d) 48)).alloc (.cells #[.bool false, .bool false, .bool false, .bool false, .bool false, .bool false, .int .i64 0, .int .i64 0, .int .i64 0, .int .i64 0, .int .i64 0, .int .i64 0] 48)) (w.heap.size + 1) 48 #[.bool false, .bool false, .bool false, .bool false, .bool false, .bool false, .int .i64 0, .int .i64 0, .int .i64 0, .int .i64 0, .int .i64 0, .int .i64 0] := by have := Blk.new (w.alloc (.cells (dArr d) 48)) 48 #[.bool false, .bool false, .bool false, .bool false, .bool false, .bool false, .int .i64 0, .int .i64 0, .int .i64 0, .int .i64 0, .int .i64 0, .int .i64 0]; rwa [World.size_alloc] at this
  have hE : Ext w ((w.alloc (.cells (dArr d) 48)).alloc (.cells #[.bool false, .bool false, .bool false, .bool false, .bool false, .bool false, .int .i64 0, .int .i64 0, .int .i64 0, .int .i64 0, .int .i64 0, .int .i64 0] 48)) := ((Ext.refl w).alloc _).alloc _
  have HA0 := Lib.hid hA; have HB0 := Lib.hid hB; have HE0 := Lib.hid hE; clear hA hB hE
  go_enter Tryz.func57, Tryz.ntmps57
  go_wp2_with fail
  generalize (w.alloc (.cells (dArr d) 48)).alloc (.cells #[.bool false, .bool false, .bool false, .bool false, .bool false, .bool false, .int .i64 0, .int .i64 0, .int .i64 0, .int .i64 0, .int .i64 0, .int .i64 0] 48) = W0 at *
  go_loop [5] (fun i => ∃ k : Nat, k ≤ x.size ∧ i = .int .i64 k ∧ ∀ j (hj : j < x.size), j < k → ¬ (x[j].toNat : Int) = 61) (fun i => x.size - (intOf i).toNat)
  case atStart => exact ⟨0, Nat.zero_le _, rfl, fun j _ h => absurd h (Nat.not_lt_zero _)⟩
  case round =>
    obtain ⟨k, hk, rfl, hall⟩ := hrel
    have Hall := Lib.hid hall; clear hall
    by_cases hlt : k < x.size
    · by_cases h61 : (x[k].toNat : Int) = 61
      · have Hnm := Lib.hid (name_at hk Hall.out (.inr ⟨hlt, h61⟩))
        exact absurd (hth.out.symm.trans Hnm.out.2.1) (by simp [hlt])
      · have Hst := Lib.hid (at_step Hall.out hlt h61)
        have hne : ((x[k].toNat : Int) != 61) = true := by simp [h61]
        go_wp2_with fail
        go_round
        case rel => exact ⟨k + 1, by omega, by go_num, Hst.out⟩
        case measure => simp [intOf]; omega
    · have Hnm := Lib.hid (name_at hk Hall.out (.inl (by omega)))
      go_wp2_with fail
      refine (ref_Lower _ _ (by rw [ByteArray.size_extract]; omega)).mono ?_; rintro e w1 ⟨rfl, hb1⟩
      rw [← Hnm.out.1, hL.out]
      have HA := Lib.hid (HA0.out.ext hb1)
      have HB := Lib.hid (HB0.out.ext hb1)
      have HE := Lib.hid (HE0.out.trans hb1)
      skip
      have hcl : w1.cell? ⟨w.heap.size, 1, none⟩ = some (.bool d.b1) := HA.out.cell 1
      have hfz := HA.out.frozen 1
      go_wp2_with (first
        | (refine wpList_loadB rfl 48 (.tmp 2) rfl w.heap.size rfl 48 _ (HA.out.set_ 1 (.bool true)) _ Tryz.underlying48 infoD ?_)
        | (refine wpList_storeB rfl 48 (.tmp 4) (.tmp 107) rfl rfl (w.heap.size + 1) _ rfl rfl 48 _ (HB.out.far (by simp) _) infoD rfl (dArr_one { d with b1 := true }) ?_; intro w9 hB9 hx9))
      exact bodyPost_ret (v := .agg (dArr { d with b1 := true })) (results_cell_row rfl _ _ (w.heap.size + 1) 48 _ (0, 0) _ rfl hB9 Tryz.underlying48 rfl infoD) rfl ⟨congrArg (fun z => Ending.returned (.agg (dArr z))) Hk.out.symm, (HE.out.setCell (p := ⟨w.heap.size, 1, none⟩) (Nat.le_refl _) _).growB hx9 (by omega)⟩
set_option maxHeartbeats 1000000 in
set_option maxRecDepth 100000 in
theorem with_0_2 (d : D) (x L : ByteArray) (w : World) (hs : x.size ≤ 1048576) (hth : Hid (thE x = false)) (hL : Hid (lowS (eqName x) = L)) (h0 : (L.toList == [110, 111, 45, 115, 116, 111, 114, 101]) = false) (h1 : (L.toList == [110, 111, 45, 99, 97, 99, 104, 101]) = false) (h2 : (L.toList == [112, 114, 105, 118, 97, 116, 101]) = true) :
    Calls Tryz.prog 57 #[.agg (dArr d), .string x] w fun e w' => e = .returned (.agg (dArr (stepD d x))) ∧ Ext w w' := by
  have Hk := Lib.hid (show stepD d x = stepK d 2 0 2147483647 2147483647 by unfold stepD; rw [hL.out, kind_2 h0 h1 h2, hth.out, timeK_no 0 0, timeK_no 0 2147483647, timeK_no 2147483647 2147483647])
  have hA : Blk ((w.alloc (.cells (dArr d) 48)).alloc (.cells #[.bool false, .bool false, .bool false, .bool false, .bool false, .bool false, .int .i64 0, .int .i64 0, .int .i64 0, .int .i64 0, .int .i64 0, .int .i64 0] 48)) w.heap.size 48 (dArr d) := (Blk.new w _ _).alloc _
  have hB : Blk ((w.alloc (.cells (dArr d) 48)).alloc (.cells #[.bool false, .bool false, .bool false, .bool false, .bool false, .bool false, .int .i64 0, .int .i64 0, .int .i64 0, .int .i64 0, .int .i64 0, .int .i64 0] 48)) (w.heap.size + 1) 48 #[.bool false, .bool false, .bool false, .bool false, .bool false, .bool false, .int .i64 0, .int .i64 0, .int .i64 0, .int .i64 0, .int .i64 0, .int .i64 0] := by have := Blk.new (w.alloc (.cells (dArr d) 48)) 48 #[.bool false, .bool false, .bool false, .bool false, .bool false, .bool false, .int .i64 0, .int .i64 0, .int .i64 0, .int .i64 0, .int .i64 0, .int .i64 0]; rwa [World.size_alloc] at this
  have hE : Ext w ((w.alloc (.cells (dArr d) 48)).alloc (.cells #[.bool false, .bool false, .bool false, .bool false, .bool false, .bool false, .int .i64 0, .int .i64 0, .int .i64 0, .int .i64 0, .int .i64 0, .int .i64 0] 48)) := ((Ext.refl w).alloc _).alloc _
  have HA0 := Lib.hid hA; have HB0 := Lib.hid hB; have HE0 := Lib.hid hE; clear hA hB hE
  go_enter Tryz.func57, Tryz.ntmps57
  go_wp2_with fail
  generalize (w.alloc (.cells (dArr d) 48)).alloc (.cells #[.bool false, .bool false, .bool false, .bool false, .bool false, .bool false, .int .i64 0, .int .i64 0, .int .i64 0, .int .i64 0, .int .i64 0, .int .i64 0] 48) = W0 at *
  go_loop [5] (fun i => ∃ k : Nat, k ≤ x.size ∧ i = .int .i64 k ∧ ∀ j (hj : j < x.size), j < k → ¬ (x[j].toNat : Int) = 61) (fun i => x.size - (intOf i).toNat)
  case atStart => exact ⟨0, Nat.zero_le _, rfl, fun j _ h => absurd h (Nat.not_lt_zero _)⟩
  case round =>
    obtain ⟨k, hk, rfl, hall⟩ := hrel
    have Hall := Lib.hid hall; clear hall
    by_cases hlt : k < x.size
    · by_cases h61 : (x[k].toNat : Int) = 61
      · have Hnm := Lib.hid (name_at hk Hall.out (.inr ⟨hlt, h61⟩))
        exact absurd (hth.out.symm.trans Hnm.out.2.1) (by simp [hlt])
      · have Hst := Lib.hid (at_step Hall.out hlt h61)
        have hne : ((x[k].toNat : Int) != 61) = true := by simp [h61]
        go_wp2_with fail
        go_round
        case rel => exact ⟨k + 1, by omega, by go_num, Hst.out⟩
        case measure => simp [intOf]; omega
    · have Hnm := Lib.hid (name_at hk Hall.out (.inl (by omega)))
      go_wp2_with fail
      refine (ref_Lower _ _ (by rw [ByteArray.size_extract]; omega)).mono ?_; rintro e w1 ⟨rfl, hb1⟩
      rw [← Hnm.out.1, hL.out]
      have HA := Lib.hid (HA0.out.ext hb1)
      have HB := Lib.hid (HB0.out.ext hb1)
      have HE := Lib.hid (HE0.out.trans hb1)
      skip
      have hcl : w1.cell? ⟨w.heap.size, 2, none⟩ = some (.bool d.b2) := HA.out.cell 2
      have hfz := HA.out.frozen 2
      go_wp2_with (first
        | (refine wpList_loadB rfl 48 (.tmp 2) rfl w.heap.size rfl 48 _ (HA.out.set_ 2 (.bool true)) _ Tryz.underlying48 infoD ?_)
        | (refine wpList_storeB rfl 48 (.tmp 4) (.tmp 107) rfl rfl (w.heap.size + 1) _ rfl rfl 48 _ (HB.out.far (by simp) _) infoD rfl (dArr_one { d with b2 := true }) ?_; intro w9 hB9 hx9))
      exact bodyPost_ret (v := .agg (dArr { d with b2 := true })) (results_cell_row rfl _ _ (w.heap.size + 1) 48 _ (0, 0) _ rfl hB9 Tryz.underlying48 rfl infoD) rfl ⟨congrArg (fun z => Ending.returned (.agg (dArr z))) Hk.out.symm, (HE.out.setCell (p := ⟨w.heap.size, 2, none⟩) (Nat.le_refl _) _).growB hx9 (by omega)⟩
set_option maxHeartbeats 1000000 in
set_option maxRecDepth 100000 in
theorem with_0_3 (d : D) (x L : ByteArray) (w : World) (hs : x.size ≤ 1048576) (hth : Hid (thE x = false)) (hL : Hid (lowS (eqName x) = L)) (h0 : (L.toList == [110, 111, 45, 115, 116, 111, 114, 101]) = false) (h1 : (L.toList == [110, 111, 45, 99, 97, 99, 104, 101]) = false) (h2 : (L.toList == [112, 114, 105, 118, 97, 116, 101]) = false) (h3 : (L.toList == [112, 117, 98, 108, 105, 99]) = true) :
    Calls Tryz.prog 57 #[.agg (dArr d), .string x] w fun e w' => e = .returned (.agg (dArr (stepD d x))) ∧ Ext w w' := by
  have Hk := Lib.hid (show stepD d x = stepK d 3 0 2147483647 2147483647 by unfold stepD; rw [hL.out, kind_3 h0 h1 h2 h3, hth.out, timeK_no 0 0, timeK_no 0 2147483647, timeK_no 2147483647 2147483647])
  have hA : Blk ((w.alloc (.cells (dArr d) 48)).alloc (.cells #[.bool false, .bool false, .bool false, .bool false, .bool false, .bool false, .int .i64 0, .int .i64 0, .int .i64 0, .int .i64 0, .int .i64 0, .int .i64 0] 48)) w.heap.size 48 (dArr d) := (Blk.new w _ _).alloc _
  have hB : Blk ((w.alloc (.cells (dArr d) 48)).alloc (.cells #[.bool false, .bool false, .bool false, .bool false, .bool false, .bool false, .int .i64 0, .int .i64 0, .int .i64 0, .int .i64 0, .int .i64 0, .int .i64 0] 48)) (w.heap.size + 1) 48 #[.bool false, .bool false, .bool false, .bool false, .bool false, .bool false, .int .i64 0, .int .i64 0, .int .i64 0, .int .i64 0, .int .i64 0, .int .i64 0] := by have := Blk.new (w.alloc (.cells (dArr d) 48)) 48 #[.bool false, .bool false, .bool false, .bool false, .bool false, .bool false, .int .i64 0, .int .i64 0, .int .i64 0, .int .i64 0, .int .i64 0, .int .i64 0]; rwa [World.size_alloc] at this
  have hE : Ext w ((w.alloc (.cells (dArr d) 48)).alloc (.cells #[.bool false, .bool false, .bool false, .bool false, .bool false, .bool false, .int .i64 0, .int .i64 0, .int .i64 0, .int .i64 0, .int .i64 0, .int .i64 0] 48)) := ((Ext.refl w).alloc _).alloc _
  have HA0 := Lib.hid hA; have HB0 := Lib.hid hB; have HE0 := Lib.hid hE; clear hA hB hE
  go_enter Tryz.func57, Tryz.ntmps57
  go_wp2_with fail
  generalize (w.alloc (.cells (dArr d) 48)).alloc (.cells #[.bool false, .bool false, .bool false, .bool false, .bool false, .bool false, .int .i64 0, .int .i64 0, .int .i64 0, .int .i64 0, .int .i64 0, .int .i64 0] 48) = W0 at *
  go_loop [5] (fun i => ∃ k : Nat, k ≤ x.size ∧ i = .int .i64 k ∧ ∀ j (hj : j < x.size), j < k → ¬ (x[j].toNat : Int) = 61) (fun i => x.size - (intOf i).toNat)
  case atStart => exact ⟨0, Nat.zero_le _, rfl, fun j _ h => absurd h (Nat.not_lt_zero _)⟩
  case round =>
    obtain ⟨k, hk, rfl, hall⟩ := hrel
    have Hall := Lib.hid hall; clear hall
    by_cases hlt : k < x.size
    · by_cases h61 : (x[k].toNat : Int) = 61
      · have Hnm := Lib.hid (name_at hk Hall.out (.inr ⟨hlt, h61⟩))
        exact absurd (hth.out.symm.trans Hnm.out.2.1) (by simp [hlt])
      · have Hst := Lib.hid (at_step Hall.out hlt h61)
        have hne : ((x[k].toNat : Int) != 61) = true := by simp [h61]
        go_wp2_with fail
        go_round
        case rel => exact ⟨k + 1, by omega, by go_num, Hst.out⟩
        case measure => simp [intOf]; omega
    · have Hnm := Lib.hid (name_at hk Hall.out (.inl (by omega)))
      go_wp2_with fail
      refine (ref_Lower _ _ (by rw [ByteArray.size_extract]; omega)).mono ?_; rintro e w1 ⟨rfl, hb1⟩
      rw [← Hnm.out.1, hL.out]
      have HA := Lib.hid (HA0.out.ext hb1)
      have HB := Lib.hid (HB0.out.ext hb1)
      have HE := Lib.hid (HE0.out.trans hb1)
      skip
      have hcl : w1.cell? ⟨w.heap.size, 3, none⟩ = some (.bool d.b3) := HA.out.cell 3
      have hfz := HA.out.frozen 3
      go_wp2_with (first
        | (refine wpList_loadB rfl 48 (.tmp 2) rfl w.heap.size rfl 48 _ (HA.out.set_ 3 (.bool true)) _ Tryz.underlying48 infoD ?_)
        | (refine wpList_storeB rfl 48 (.tmp 4) (.tmp 107) rfl rfl (w.heap.size + 1) _ rfl rfl 48 _ (HB.out.far (by simp) _) infoD rfl (dArr_one { d with b3 := true }) ?_; intro w9 hB9 hx9))
      exact bodyPost_ret (v := .agg (dArr { d with b3 := true })) (results_cell_row rfl _ _ (w.heap.size + 1) 48 _ (0, 0) _ rfl hB9 Tryz.underlying48 rfl infoD) rfl ⟨congrArg (fun z => Ending.returned (.agg (dArr z))) Hk.out.symm, (HE.out.setCell (p := ⟨w.heap.size, 3, none⟩) (Nat.le_refl _) _).growB hx9 (by omega)⟩
set_option maxHeartbeats 1000000 in
set_option maxRecDepth 100000 in
theorem with_0_4 (d : D) (x L : ByteArray) (w : World) (hs : x.size ≤ 1048576) (hth : Hid (thE x = false)) (hL : Hid (lowS (eqName x) = L)) (h0 : (L.toList == [110, 111, 45, 115, 116, 111, 114, 101]) = false) (h1 : (L.toList == [110, 111, 45, 99, 97, 99, 104, 101]) = false) (h2 : (L.toList == [112, 114, 105, 118, 97, 116, 101]) = false) (h3 : (L.toList == [112, 117, 98, 108, 105, 99]) = false) (h4 : (L.toList == [109, 117, 115, 116, 45, 114, 101, 118, 97, 108, 105, 100, 97, 116, 101]) = true) :
    Calls Tryz.prog 57 #[.agg (dArr d), .string x] w fun e w' => e = .returned (.agg (dArr (stepD d x))) ∧ Ext w w' := by
  have Hk := Lib.hid (show stepD d x = stepK d 4 0 2147483647 2147483647 by unfold stepD; rw [hL.out, kind_4 h0 h1 h2 h3 h4, hth.out, timeK_no 0 0, timeK_no 0 2147483647, timeK_no 2147483647 2147483647])
  have hA : Blk ((w.alloc (.cells (dArr d) 48)).alloc (.cells #[.bool false, .bool false, .bool false, .bool false, .bool false, .bool false, .int .i64 0, .int .i64 0, .int .i64 0, .int .i64 0, .int .i64 0, .int .i64 0] 48)) w.heap.size 48 (dArr d) := (Blk.new w _ _).alloc _
  have hB : Blk ((w.alloc (.cells (dArr d) 48)).alloc (.cells #[.bool false, .bool false, .bool false, .bool false, .bool false, .bool false, .int .i64 0, .int .i64 0, .int .i64 0, .int .i64 0, .int .i64 0, .int .i64 0] 48)) (w.heap.size + 1) 48 #[.bool false, .bool false, .bool false, .bool false, .bool false, .bool false, .int .i64 0, .int .i64 0, .int .i64 0, .int .i64 0, .int .i64 0, .int .i64 0] := by have := Blk.new (w.alloc (.cells (dArr d) 48)) 48 #[.bool false, .bool false, .bool false, .bool false, .bool false, .bool false, .int .i64 0, .int .i64 0, .int .i64 0, .int .i64 0, .int .i64 0, .int .i64 0]; rwa [World.size_alloc] at this
  have hE : Ext w ((w.alloc (.cells (dArr d) 48)).alloc (.cells #[.bool false, .bool false, .bool false, .bool false, .bool false, .bool false, .int .i64 0, .int .i64 0, .int .i64 0, .int .i64 0, .int .i64 0, .int .i64 0] 48)) := ((Ext.refl w).alloc _).alloc _
  have HA0 := Lib.hid hA; have HB0 := Lib.hid hB; have HE0 := Lib.hid hE; clear hA hB hE
  go_enter Tryz.func57, Tryz.ntmps57
  go_wp2_with fail
  generalize (w.alloc (.cells (dArr d) 48)).alloc (.cells #[.bool false, .bool false, .bool false, .bool false, .bool false, .bool false, .int .i64 0, .int .i64 0, .int .i64 0, .int .i64 0, .int .i64 0, .int .i64 0] 48) = W0 at *
  go_loop [5] (fun i => ∃ k : Nat, k ≤ x.size ∧ i = .int .i64 k ∧ ∀ j (hj : j < x.size), j < k → ¬ (x[j].toNat : Int) = 61) (fun i => x.size - (intOf i).toNat)
  case atStart => exact ⟨0, Nat.zero_le _, rfl, fun j _ h => absurd h (Nat.not_lt_zero _)⟩
  case round =>
    obtain ⟨k, hk, rfl, hall⟩ := hrel
    have Hall := Lib.hid hall; clear hall
    by_cases hlt : k < x.size
    · by_cases h61 : (x[k].toNat : Int) = 61
      · have Hnm := Lib.hid (name_at hk Hall.out (.inr ⟨hlt, h61⟩))
        exact absurd (hth.out.symm.trans Hnm.out.2.1) (by simp [hlt])
      · have Hst := Lib.hid (at_step Hall.out hlt h61)
        have hne : ((x[k].toNat : Int) != 61) = true := by simp [h61]
        go_wp2_with fail
        go_round
        case rel => exact ⟨k + 1, by omega, by go_num, Hst.out⟩
        case measure => simp [intOf]; omega
    · have Hnm := Lib.hid (name_at hk Hall.out (.inl (by omega)))
      go_wp2_with fail
      refine (ref_Lower _ _ (by rw [ByteArray.size_extract]; omega)).mono ?_; rintro e w1 ⟨rfl, hb1⟩
      rw [← Hnm.out.1, hL.out]
      have HA := Lib.hid (HA0.out.ext hb1)
      have HB := Lib.hid (HB0.out.ext hb1)
      have HE := Lib.hid (HE0.out.trans hb1)
      skip
      have hcl : w1.cell? ⟨w.heap.size, 4, none⟩ = some (.bool d.b4) := HA.out.cell 4
      have hfz := HA.out.frozen 4
      go_wp2_with (first
        | (refine wpList_loadB rfl 48 (.tmp 2) rfl w.heap.size rfl 48 _ (HA.out.set_ 4 (.bool true)) _ Tryz.underlying48 infoD ?_)
        | (refine wpList_storeB rfl 48 (.tmp 4) (.tmp 107) rfl rfl (w.heap.size + 1) _ rfl rfl 48 _ (HB.out.far (by simp) _) infoD rfl (dArr_one { d with b4 := true }) ?_; intro w9 hB9 hx9))
      exact bodyPost_ret (v := .agg (dArr { d with b4 := true })) (results_cell_row rfl _ _ (w.heap.size + 1) 48 _ (0, 0) _ rfl hB9 Tryz.underlying48 rfl infoD) rfl ⟨congrArg (fun z => Ending.returned (.agg (dArr z))) Hk.out.symm, (HE.out.setCell (p := ⟨w.heap.size, 4, none⟩) (Nat.le_refl _) _).growB hx9 (by omega)⟩
set_option maxHeartbeats 1000000 in
set_option maxRecDepth 100000 in
theorem with_0_5 (d : D) (x L : ByteArray) (w : World) (hs : x.size ≤ 1048576) (hth : Hid (thE x = false)) (hL : Hid (lowS (eqName x) = L)) (h0 : (L.toList == [110, 111, 45, 115, 116, 111, 114, 101]) = false) (h1 : (L.toList == [110, 111, 45, 99, 97, 99, 104, 101]) = false) (h2 : (L.toList == [112, 114, 105, 118, 97, 116, 101]) = false) (h3 : (L.toList == [112, 117, 98, 108, 105, 99]) = false) (h4 : (L.toList == [109, 117, 115, 116, 45, 114, 101, 118, 97, 108, 105, 100, 97, 116, 101]) = false) (h5 : (L.toList == [112, 114, 111, 120, 121, 45, 114, 101, 118, 97, 108, 105, 100, 97, 116, 101]) = true) :
    Calls Tryz.prog 57 #[.agg (dArr d), .string x] w fun e w' => e = .returned (.agg (dArr (stepD d x))) ∧ Ext w w' := by
  have Hk := Lib.hid (show stepD d x = stepK d 5 0 2147483647 2147483647 by unfold stepD; rw [hL.out, kind_5 h0 h1 h2 h3 h4 h5, hth.out, timeK_no 0 0, timeK_no 0 2147483647, timeK_no 2147483647 2147483647])
  have hA : Blk ((w.alloc (.cells (dArr d) 48)).alloc (.cells #[.bool false, .bool false, .bool false, .bool false, .bool false, .bool false, .int .i64 0, .int .i64 0, .int .i64 0, .int .i64 0, .int .i64 0, .int .i64 0] 48)) w.heap.size 48 (dArr d) := (Blk.new w _ _).alloc _
  have hB : Blk ((w.alloc (.cells (dArr d) 48)).alloc (.cells #[.bool false, .bool false, .bool false, .bool false, .bool false, .bool false, .int .i64 0, .int .i64 0, .int .i64 0, .int .i64 0, .int .i64 0, .int .i64 0] 48)) (w.heap.size + 1) 48 #[.bool false, .bool false, .bool false, .bool false, .bool false, .bool false, .int .i64 0, .int .i64 0, .int .i64 0, .int .i64 0, .int .i64 0, .int .i64 0] := by have := Blk.new (w.alloc (.cells (dArr d) 48)) 48 #[.bool false, .bool false, .bool false, .bool false, .bool false, .bool false, .int .i64 0, .int .i64 0, .int .i64 0, .int .i64 0, .int .i64 0, .int .i64 0]; rwa [World.size_alloc] at this
  have hE : Ext w ((w.alloc (.cells (dArr d) 48)).alloc (.cells #[.bool false, .bool false, .bool false, .bool false, .bool false, .bool false, .int .i64 0, .int .i64 0, .int .i64 0, .int .i64 0, .int .i64 0, .int .i64 0] 48)) := ((Ext.refl w).alloc _).alloc _
  have HA0 := Lib.hid hA; have HB0 := Lib.hid hB; have HE0 := Lib.hid hE; clear hA hB hE
  go_enter Tryz.func57, Tryz.ntmps57
  go_wp2_with fail
  generalize (w.alloc (.cells (dArr d) 48)).alloc (.cells #[.bool false, .bool false, .bool false, .bool false, .bool false, .bool false, .int .i64 0, .int .i64 0, .int .i64 0, .int .i64 0, .int .i64 0, .int .i64 0] 48) = W0 at *
  go_loop [5] (fun i => ∃ k : Nat, k ≤ x.size ∧ i = .int .i64 k ∧ ∀ j (hj : j < x.size), j < k → ¬ (x[j].toNat : Int) = 61) (fun i => x.size - (intOf i).toNat)
  case atStart => exact ⟨0, Nat.zero_le _, rfl, fun j _ h => absurd h (Nat.not_lt_zero _)⟩
  case round =>
    obtain ⟨k, hk, rfl, hall⟩ := hrel
    have Hall := Lib.hid hall; clear hall
    by_cases hlt : k < x.size
    · by_cases h61 : (x[k].toNat : Int) = 61
      · have Hnm := Lib.hid (name_at hk Hall.out (.inr ⟨hlt, h61⟩))
        exact absurd (hth.out.symm.trans Hnm.out.2.1) (by simp [hlt])
      · have Hst := Lib.hid (at_step Hall.out hlt h61)
        have hne : ((x[k].toNat : Int) != 61) = true := by simp [h61]
        go_wp2_with fail
        go_round
        case rel => exact ⟨k + 1, by omega, by go_num, Hst.out⟩
        case measure => simp [intOf]; omega
    · have Hnm := Lib.hid (name_at hk Hall.out (.inl (by omega)))
      go_wp2_with fail
      refine (ref_Lower _ _ (by rw [ByteArray.size_extract]; omega)).mono ?_; rintro e w1 ⟨rfl, hb1⟩
      rw [← Hnm.out.1, hL.out]
      have HA := Lib.hid (HA0.out.ext hb1)
      have HB := Lib.hid (HB0.out.ext hb1)
      have HE := Lib.hid (HE0.out.trans hb1)
      skip
      have hcl : w1.cell? ⟨w.heap.size, 4, none⟩ = some (.bool d.b4) := HA.out.cell 4
      have hfz := HA.out.frozen 4
      go_wp2_with (first
        | (refine wpList_loadB rfl 48 (.tmp 2) rfl w.heap.size rfl 48 _ (HA.out.set_ 4 (.bool true)) _ Tryz.underlying48 infoD ?_)
        | (refine wpList_storeB rfl 48 (.tmp 4) (.tmp 107) rfl rfl (w.heap.size + 1) _ rfl rfl 48 _ (HB.out.far (by simp) _) infoD rfl (dArr_one { d with b4 := true }) ?_; intro w9 hB9 hx9))
      exact bodyPost_ret (v := .agg (dArr { d with b4 := true })) (results_cell_row rfl _ _ (w.heap.size + 1) 48 _ (0, 0) _ rfl hB9 Tryz.underlying48 rfl infoD) rfl ⟨congrArg (fun z => Ending.returned (.agg (dArr z))) Hk.out.symm, (HE.out.setCell (p := ⟨w.heap.size, 4, none⟩) (Nat.le_refl _) _).growB hx9 (by omega)⟩
set_option maxHeartbeats 1000000 in
set_option maxRecDepth 100000 in
theorem with_0_6 (d : D) (x L : ByteArray) (w : World) (hs : x.size ≤ 1048576) (hth : Hid (thE x = false)) (hL : Hid (lowS (eqName x) = L)) (h0 : (L.toList == [110, 111, 45, 115, 116, 111, 114, 101]) = false) (h1 : (L.toList == [110, 111, 45, 99, 97, 99, 104, 101]) = false) (h2 : (L.toList == [112, 114, 105, 118, 97, 116, 101]) = false) (h3 : (L.toList == [112, 117, 98, 108, 105, 99]) = false) (h4 : (L.toList == [109, 117, 115, 116, 45, 114, 101, 118, 97, 108, 105, 100, 97, 116, 101]) = false) (h5 : (L.toList == [112, 114, 111, 120, 121, 45, 114, 101, 118, 97, 108, 105, 100, 97, 116, 101]) = false) (h6 : (L.toList == [111, 110, 108, 121, 45, 105, 102, 45, 99, 97, 99, 104, 101, 100]) = true) :
    Calls Tryz.prog 57 #[.agg (dArr d), .string x] w fun e w' => e = .returned (.agg (dArr (stepD d x))) ∧ Ext w w' := by
  have Hk := Lib.hid (show stepD d x = stepK d 6 0 2147483647 2147483647 by unfold stepD; rw [hL.out, kind_6 h0 h1 h2 h3 h4 h5 h6, hth.out, timeK_no 0 0, timeK_no 0 2147483647, timeK_no 2147483647 2147483647])
  have hA : Blk ((w.alloc (.cells (dArr d) 48)).alloc (.cells #[.bool false, .bool false, .bool false, .bool false, .bool false, .bool false, .int .i64 0, .int .i64 0, .int .i64 0, .int .i64 0, .int .i64 0, .int .i64 0] 48)) w.heap.size 48 (dArr d) := (Blk.new w _ _).alloc _
  have hB : Blk ((w.alloc (.cells (dArr d) 48)).alloc (.cells #[.bool false, .bool false, .bool false, .bool false, .bool false, .bool false, .int .i64 0, .int .i64 0, .int .i64 0, .int .i64 0, .int .i64 0, .int .i64 0] 48)) (w.heap.size + 1) 48 #[.bool false, .bool false, .bool false, .bool false, .bool false, .bool false, .int .i64 0, .int .i64 0, .int .i64 0, .int .i64 0, .int .i64 0, .int .i64 0] := by have := Blk.new (w.alloc (.cells (dArr d) 48)) 48 #[.bool false, .bool false, .bool false, .bool false, .bool false, .bool false, .int .i64 0, .int .i64 0, .int .i64 0, .int .i64 0, .int .i64 0, .int .i64 0]; rwa [World.size_alloc] at this
  have hE : Ext w ((w.alloc (.cells (dArr d) 48)).alloc (.cells #[.bool false, .bool false, .bool false, .bool false, .bool false, .bool false, .int .i64 0, .int .i64 0, .int .i64 0, .int .i64 0, .int .i64 0, .int .i64 0] 48)) := ((Ext.refl w).alloc _).alloc _
  have HA0 := Lib.hid hA; have HB0 := Lib.hid hB; have HE0 := Lib.hid hE; clear hA hB hE
  go_enter Tryz.func57, Tryz.ntmps57
  go_wp2_with fail
  generalize (w.alloc (.cells (dArr d) 48)).alloc (.cells #[.bool false, .bool false, .bool false, .bool false, .bool false, .bool false, .int .i64 0, .int .i64 0, .int .i64 0, .int .i64 0, .int .i64 0, .int .i64 0] 48) = W0 at *
  go_loop [5] (fun i => ∃ k : Nat, k ≤ x.size ∧ i = .int .i64 k ∧ ∀ j (hj : j < x.size), j < k → ¬ (x[j].toNat : Int) = 61) (fun i => x.size - (intOf i).toNat)
  case atStart => exact ⟨0, Nat.zero_le _, rfl, fun j _ h => absurd h (Nat.not_lt_zero _)⟩
  case round =>
    obtain ⟨k, hk, rfl, hall⟩ := hrel
    have Hall := Lib.hid hall; clear hall
    by_cases hlt : k < x.size
    · by_cases h61 : (x[k].toNat : Int) = 61
      · have Hnm := Lib.hid (name_at hk Hall.out (.inr ⟨hlt, h61⟩))
        exact absurd (hth.out.symm.trans Hnm.out.2.1) (by simp [hlt])
      · have Hst := Lib.hid (at_step Hall.out hlt h61)
        have hne : ((x[k].toNat : Int) != 61) = true := by simp [h61]
        go_wp2_with fail
        go_round
        case rel => exact ⟨k + 1, by omega, by go_num, Hst.out⟩
        case measure => simp [intOf]; omega
    · have Hnm := Lib.hid (name_at hk Hall.out (.inl (by omega)))
      go_wp2_with fail
      refine (ref_Lower _ _ (by rw [ByteArray.size_extract]; omega)).mono ?_; rintro e w1 ⟨rfl, hb1⟩
      rw [← Hnm.out.1, hL.out]
      have HA := Lib.hid (HA0.out.ext hb1)
      have HB := Lib.hid (HB0.out.ext hb1)
      have HE := Lib.hid (HE0.out.trans hb1)
      skip
      have hcl : w1.cell? ⟨w.heap.size, 5, none⟩ = some (.bool d.b5) := HA.out.cell 5
      have hfz := HA.out.frozen 5
      go_wp2_with (first
        | (refine wpList_loadB rfl 48 (.tmp 2) rfl w.heap.size rfl 48 _ (HA.out.set_ 5 (.bool true)) _ Tryz.underlying48 infoD ?_)
        | (refine wpList_storeB rfl 48 (.tmp 4) (.tmp 107) rfl rfl (w.heap.size + 1) _ rfl rfl 48 _ (HB.out.far (by simp) _) infoD rfl (dArr_one { d with b5 := true }) ?_; intro w9 hB9 hx9))
      exact bodyPost_ret (v := .agg (dArr { d with b5 := true })) (results_cell_row rfl _ _ (w.heap.size + 1) 48 _ (0, 0) _ rfl hB9 Tryz.underlying48 rfl infoD) rfl ⟨congrArg (fun z => Ending.returned (.agg (dArr z))) Hk.out.symm, (HE.out.setCell (p := ⟨w.heap.size, 5, none⟩) (Nat.le_refl _) _).growB hx9 (by omega)⟩
set_option maxHeartbeats 1000000 in
set_option maxRecDepth 100000 in
theorem with_0_7 (d : D) (x L : ByteArray) (w : World) (hs : x.size ≤ 1048576) (hth : Hid (thE x = false)) (hL : Hid (lowS (eqName x) = L)) (h0 : (L.toList == [110, 111, 45, 115, 116, 111, 114, 101]) = false) (h1 : (L.toList == [110, 111, 45, 99, 97, 99, 104, 101]) = false) (h2 : (L.toList == [112, 114, 105, 118, 97, 116, 101]) = false) (h3 : (L.toList == [112, 117, 98, 108, 105, 99]) = false) (h4 : (L.toList == [109, 117, 115, 116, 45, 114, 101, 118, 97, 108, 105, 100, 97, 116, 101]) = false) (h5 : (L.toList == [112, 114, 111, 120, 121, 45, 114, 101, 118, 97, 108, 105, 100, 97, 116, 101]) = false) (h6 : (L.toList == [111, 110, 108, 121, 45, 105, 102, 45, 99, 97, 99, 104, 101, 100]) = false) (h7 : (L.toList == [109, 97, 120, 45, 97, 103, 101]) = true) :
    Calls Tryz.prog 57 #[.agg (dArr d), .string x] w fun e w' => e = .returned (.agg (dArr (stepD d x))) ∧ Ext w w' := by
  have Hk := Lib.hid (show stepD d x = stepK d 7 0 2147483647 2147483647 by unfold stepD; rw [hL.out, kind_7 h0 h1 h2 h3 h4 h5 h6 h7, hth.out, timeK_no 0 0, timeK_no 0 2147483647, timeK_no 2147483647 2147483647])
  have hA : Blk ((w.alloc (.cells (dArr d) 48)).alloc (.cells #[.bool false, .bool false, .bool false, .bool false, .bool false, .bool false, .int .i64 0, .int .i64 0, .int .i64 0, .int .i64 0, .int .i64 0, .int .i64 0] 48)) w.heap.size 48 (dArr d) := (Blk.new w _ _).alloc _
  have hB : Blk ((w.alloc (.cells (dArr d) 48)).alloc (.cells #[.bool false, .bool false, .bool false, .bool false, .bool false, .bool false, .int .i64 0, .int .i64 0, .int .i64 0, .int .i64 0, .int .i64 0, .int .i64 0] 48)) (w.heap.size + 1) 48 #[.bool false, .bool false, .bool false, .bool false, .bool false, .bool false, .int .i64 0, .int .i64 0, .int .i64 0, .int .i64 0, .int .i64 0, .int .i64 0] := by have := Blk.new (w.alloc (.cells (dArr d) 48)) 48 #[.bool false, .bool false, .bool false, .bool false, .bool false, .bool false, .int .i64 0, .int .i64 0, .int .i64 0, .int .i64 0, .int .i64 0, .int .i64 0]; rwa [World.size_alloc] at this
  have hE : Ext w ((w.alloc (.cells (dArr d) 48)).alloc (.cells #[.bool false, .bool false, .bool false, .bool false, .bool false, .bool false, .int .i64 0, .int .i64 0, .int .i64 0, .int .i64 0, .int .i64 0, .int .i64 0] 48)) := ((Ext.refl w).alloc _).alloc _
  have HA0 := Lib.hid hA; have HB0 := Lib.hid hB; have HE0 := Lib.hid hE; clear hA hB hE
  go_enter Tryz.func57, Tryz.ntmps57
  go_wp2_with fail
  generalize (w.alloc (.cells (dArr d) 48)).alloc (.cells #[.bool false, .bool false, .bool false, .bool false, .bool false, .bool false, .int .i64 0, .int .i64 0, .int .i64 0, .int .i64 0, .int .i64 0, .int .i64 0] 48) = W0 at *
  go_loop [5] (fun i => ∃ k : Nat, k ≤ x.size ∧ i = .int .i64 k ∧ ∀ j (hj : j < x.size), j < k → ¬ (x[j].toNat : Int) = 61) (fun i => x.size - (intOf i).toNat)
  case atStart => exact ⟨0, Nat.zero_le _, rfl, fun j _ h => absurd h (Nat.not_lt_zero _)⟩
  case round =>
    obtain ⟨k, hk, rfl, hall⟩ := hrel
    have Hall := Lib.hid hall; clear hall
    by_cases hlt : k < x.size
    · by_cases h61 : (x[k].toNat : Int) = 61
      · have Hnm := Lib.hid (name_at hk Hall.out (.inr ⟨hlt, h61⟩))
        exact absurd (hth.out.symm.trans Hnm.out.2.1) (by simp [hlt])
      · have Hst := Lib.hid (at_step Hall.out hlt h61)
        have hne : ((x[k].toNat : Int) != 61) = true := by simp [h61]
        go_wp2_with fail
        go_round
        case rel => exact ⟨k + 1, by omega, by go_num, Hst.out⟩
        case measure => simp [intOf]; omega
    · have Hnm := Lib.hid (name_at hk Hall.out (.inl (by omega)))
      go_wp2_with fail
      refine (ref_Lower _ _ (by rw [ByteArray.size_extract]; omega)).mono ?_; rintro e w1 ⟨rfl, hb1⟩
      rw [← Hnm.out.1, hL.out]
      have HA := Lib.hid (HA0.out.ext hb1)
      have HB := Lib.hid (HB0.out.ext hb1)
      have HE := Lib.hid (HE0.out.trans hb1)
      skip
      have hcl : w1.cell? ⟨w.heap.size, 6, none⟩ = some (.int .i64 d.n0) := HA.out.cell 6
      go_wp2_with fail
      refine (ref_lst d.n0 0 _ (by decide)).mono ?_; rintro e w4 ⟨rfl, hb4⟩
      have hA4 := HA.out.ext hb4
      have hcl4 : w4.cell? ⟨w.heap.size, 6, none⟩ = some (.int .i64 d.n0) := hA4.cell 6
      have hfz4 := hA4.frozen 6
      have HA4 := Lib.hid hA4; clear hA4
      go_wp2_with (first
        | (refine wpList_loadB rfl 48 (.tmp 2) rfl w.heap.size rfl 48 _ (HA4.out.set_ 6 (.int .i64 (lst d.n0 0))) _ Tryz.underlying48 infoD ?_)
        | (refine wpList_storeB rfl 48 (.tmp 4) (.tmp 107) rfl rfl (w.heap.size + 1) _ rfl rfl 48 _ ((HB.out.ext hb4).far (by simp) _) infoD rfl (dArr_one { d with n0 := lst d.n0 0 }) ?_; intro w9 hB9 hx9))
      exact bodyPost_ret (v := .agg (dArr { d with n0 := lst d.n0 0 })) (results_cell_row rfl _ _ (w.heap.size + 1) 48 _ (0, 0) _ rfl hB9 Tryz.underlying48 rfl infoD) rfl ⟨congrArg (fun z => Ending.returned (.agg (dArr z))) Hk.out.symm, ((HE.out.trans hb4).setCell (p := ⟨w.heap.size, 6, none⟩) (Nat.le_refl _) _).growB hx9 (by omega)⟩
set_option maxHeartbeats 1000000 in
set_option maxRecDepth 100000 in
theorem with_0_8 (d : D) (x L : ByteArray) (w : World) (hs : x.size ≤ 1048576) (hth : Hid (thE x = false)) (hL : Hid (lowS (eqName x) = L)) (h0 : (L.toList == [110, 111, 45, 115, 116, 111, 114, 101]) = false) (h1 : (L.toList == [110, 111, 45, 99, 97, 99, 104, 101]) = false) (h2 : (L.toList == [112, 114, 105, 118, 97, 116, 101]) = false) (h3 : (L.toList == [112, 117, 98, 108, 105, 99]) = false) (h4 : (L.toList == [109, 117, 115, 116, 45, 114, 101, 118, 97, 108, 105, 100, 97, 116, 101]) = false) (h5 : (L.toList == [112, 114, 111, 120, 121, 45, 114, 101, 118, 97, 108, 105, 100, 97, 116, 101]) = false) (h6 : (L.toList == [111, 110, 108, 121, 45, 105, 102, 45, 99, 97, 99, 104, 101, 100]) = false) (h7 : (L.toList == [109, 97, 120, 45, 97, 103, 101]) = false) (h8 : (L.toList == [115, 45, 109, 97, 120, 97, 103, 101]) = true) :
    Calls Tryz.prog 57 #[.agg (dArr d), .string x] w fun e w' => e = .returned (.agg (dArr (stepD d x))) ∧ Ext w w' := by
  have Hk := Lib.hid (show stepD d x = stepK d 8 0 2147483647 2147483647 by unfold stepD; rw [hL.out, kind_8 h0 h1 h2 h3 h4 h5 h6 h7 h8, hth.out, timeK_no 0 0, timeK_no 0 2147483647, timeK_no 2147483647 2147483647])
  have hA : Blk ((w.alloc (.cells (dArr d) 48)).alloc (.cells #[.bool false, .bool false, .bool false, .bool false, .bool false, .bool false, .int .i64 0, .int .i64 0, .int .i64 0, .int .i64 0, .int .i64 0, .int .i64 0] 48)) w.heap.size 48 (dArr d) := (Blk.new w _ _).alloc _
  have hB : Blk ((w.alloc (.cells (dArr d) 48)).alloc (.cells #[.bool false, .bool false, .bool false, .bool false, .bool false, .bool false, .int .i64 0, .int .i64 0, .int .i64 0, .int .i64 0, .int .i64 0, .int .i64 0] 48)) (w.heap.size + 1) 48 #[.bool false, .bool false, .bool false, .bool false, .bool false, .bool false, .int .i64 0, .int .i64 0, .int .i64 0, .int .i64 0, .int .i64 0, .int .i64 0] := by have := Blk.new (w.alloc (.cells (dArr d) 48)) 48 #[.bool false, .bool false, .bool false, .bool false, .bool false, .bool false, .int .i64 0, .int .i64 0, .int .i64 0, .int .i64 0, .int .i64 0, .int .i64 0]; rwa [World.size_alloc] at this
  have hE : Ext w ((w.alloc (.cells (dArr d) 48)).alloc (.cells #[.bool false, .bool false, .bool false, .bool false, .bool false, .bool false, .int .i64 0, .int .i64 0, .int .i64 0, .int .i64 0, .int .i64 0, .int .i64 0] 48)) := ((Ext.refl w).alloc _).alloc _
  have HA0 := Lib.hid hA; have HB0 := Lib.hid hB; have HE0 := Lib.hid hE; clear hA hB hE
  go_enter Tryz.func57, Tryz.ntmps57
  go_wp2_with fail
  generalize (w.alloc (.cells (dArr d) 48)).alloc (.cells #[.bool false, .bool false, .bool false, .bool false, .bool false, .bool false, .int .i64 0, .int .i64 0, .int .i64 0, .int .i64 0, .int .i64 0, .int .i64 0] 48) = W0 at *
  go_loop [5] (fun i => ∃ k : Nat, k ≤ x.size ∧ i = .int .i64 k ∧ ∀ j (hj : j < x.size), j < k → ¬ (x[j].toNat : Int) = 61) (fun i => x.size - (intOf i).toNat)
  case atStart => exact ⟨0, Nat.zero_le _, rfl, fun j _ h => absurd h (Nat.not_lt_zero _)⟩
  case round =>
    obtain ⟨k, hk, rfl, hall⟩ := hrel
    have Hall := Lib.hid hall; clear hall
    by_cases hlt : k < x.size
    · by_cases h61 : (x[k].toNat : Int) = 61
      · have Hnm := Lib.hid (name_at hk Hall.out (.inr ⟨hlt, h61⟩))
        exact absurd (hth.out.symm.trans Hnm.out.2.1) (by simp [hlt])
      · have Hst := Lib.hid (at_step Hall.out hlt h61)
        have hne : ((x[k].toNat : Int) != 61) = true := by simp [h61]
        go_wp2_with fail
        go_round
        case rel => exact ⟨k + 1, by omega, by go_num, Hst.out⟩
        case measure => simp [intOf]; omega
    · have Hnm := Lib.hid (name_at hk Hall.out (.inl (by omega)))
      go_wp2_with fail
      refine (ref_Lower _ _ (by rw [ByteArray.size_extract]; omega)).mono ?_; rintro e w1 ⟨rfl, hb1⟩
      rw [← Hnm.out.1, hL.out]
      have HA := Lib.hid (HA0.out.ext hb1)
      have HB := Lib.hid (HB0.out.ext hb1)
      have HE := Lib.hid (HE0.out.trans hb1)
      skip
      have hcl : w1.cell? ⟨w.heap.size, 7, none⟩ = some (.int .i64 d.n1) := HA.out.cell 7
      go_wp2_with fail
      refine (ref_lst d.n1 0 _ (by decide)).mono ?_; rintro e w4 ⟨rfl, hb4⟩
      have hA4 := HA.out.ext hb4
      have hcl4 : w4.cell? ⟨w.heap.size, 7, none⟩ = some (.int .i64 d.n1) := hA4.cell 7
      have hfz4 := hA4.frozen 7
      have HA4 := Lib.hid hA4; clear hA4
      go_wp2_with (first
        | (refine wpList_loadB rfl 48 (.tmp 2) rfl w.heap.size rfl 48 _ (HA4.out.set_ 7 (.int .i64 (lst d.n1 0))) _ Tryz.underlying48 infoD ?_)
        | (refine wpList_storeB rfl 48 (.tmp 4) (.tmp 107) rfl rfl (w.heap.size + 1) _ rfl rfl 48 _ ((HB.out.ext hb4).far (by simp) _) infoD rfl (dArr_one { d with n1 := lst d.n1 0 }) ?_; intro w9 hB9 hx9))
      exact bodyPost_ret (v := .agg (dArr { d with n1 := lst d.n1 0 })) (results_cell_row rfl _ _ (w.heap.size + 1) 48 _ (0, 0) _ rfl hB9 Tryz.underlying48 rfl infoD) rfl ⟨congrArg (fun z => Ending.returned (.agg (dArr z))) Hk.out.symm, ((HE.out.trans hb4).setCell (p := ⟨w.heap.size, 7, none⟩) (Nat.le_refl _) _).growB hx9 (by omega)⟩
set_option maxHeartbeats 1000000 in
set_option maxRecDepth 100000 in
theorem with_0_9 (d : D) (x L : ByteArray) (w : World) (hs : x.size ≤ 1048576) (hth : Hid (thE x = false)) (hL : Hid (lowS (eqName x) = L)) (h0 : (L.toList == [110, 111, 45, 115, 116, 111, 114, 101]) = false) (h1 : (L.toList == [110, 111, 45, 99, 97, 99, 104, 101]) = false) (h2 : (L.toList == [112, 114, 105, 118, 97, 116, 101]) = false) (h3 : (L.toList == [112, 117, 98, 108, 105, 99]) = false) (h4 : (L.toList == [109, 117, 115, 116, 45, 114, 101, 118, 97, 108, 105, 100, 97, 116, 101]) = false) (h5 : (L.toList == [112, 114, 111, 120, 121, 45, 114, 101, 118, 97, 108, 105, 100, 97, 116, 101]) = false) (h6 : (L.toList == [111, 110, 108, 121, 45, 105, 102, 45, 99, 97, 99, 104, 101, 100]) = false) (h7 : (L.toList == [109, 97, 120, 45, 97, 103, 101]) = false) (h8 : (L.toList == [115, 45, 109, 97, 120, 97, 103, 101]) = false) (h9 : (L.toList == [115, 116, 97, 108, 101, 45, 119, 104, 105, 108, 101, 45, 114, 101, 118, 97, 108, 105, 100, 97, 116, 101]) = true) :
    Calls Tryz.prog 57 #[.agg (dArr d), .string x] w fun e w' => e = .returned (.agg (dArr (stepD d x))) ∧ Ext w w' := by
  have Hk := Lib.hid (show stepD d x = stepK d 9 0 2147483647 2147483647 by unfold stepD; rw [hL.out, kind_9 h0 h1 h2 h3 h4 h5 h6 h7 h8 h9, hth.out, timeK_no 0 0, timeK_no 0 2147483647, timeK_no 2147483647 2147483647])
  have hA : Blk ((w.alloc (.cells (dArr d) 48)).alloc (.cells #[.bool false, .bool false, .bool false, .bool false, .bool false, .bool false, .int .i64 0, .int .i64 0, .int .i64 0, .int .i64 0, .int .i64 0, .int .i64 0] 48)) w.heap.size 48 (dArr d) := (Blk.new w _ _).alloc _
  have hB : Blk ((w.alloc (.cells (dArr d) 48)).alloc (.cells #[.bool false, .bool false, .bool false, .bool false, .bool false, .bool false, .int .i64 0, .int .i64 0, .int .i64 0, .int .i64 0, .int .i64 0, .int .i64 0] 48)) (w.heap.size + 1) 48 #[.bool false, .bool false, .bool false, .bool false, .bool false, .bool false, .int .i64 0, .int .i64 0, .int .i64 0, .int .i64 0, .int .i64 0, .int .i64 0] := by have := Blk.new (w.alloc (.cells (dArr d) 48)) 48 #[.bool false, .bool false, .bool false, .bool false, .bool false, .bool false, .int .i64 0, .int .i64 0, .int .i64 0, .int .i64 0, .int .i64 0, .int .i64 0]; rwa [World.size_alloc] at this
  have hE : Ext w ((w.alloc (.cells (dArr d) 48)).alloc (.cells #[.bool false, .bool false, .bool false, .bool false, .bool false, .bool false, .int .i64 0, .int .i64 0, .int .i64 0, .int .i64 0, .int .i64 0, .int .i64 0] 48)) := ((Ext.refl w).alloc _).alloc _
  have HA0 := Lib.hid hA; have HB0 := Lib.hid hB; have HE0 := Lib.hid hE; clear hA hB hE
  go_enter Tryz.func57, Tryz.ntmps57
  go_wp2_with fail
  generalize (w.alloc (.cells (dArr d) 48)).alloc (.cells #[.bool false, .bool false, .bool false, .bool false, .bool false, .bool false, .int .i64 0, .int .i64 0, .int .i64 0, .int .i64 0, .int .i64 0, .int .i64 0] 48) = W0 at *
  go_loop [5] (fun i => ∃ k : Nat, k ≤ x.size ∧ i = .int .i64 k ∧ ∀ j (hj : j < x.size), j < k → ¬ (x[j].toNat : Int) = 61) (fun i => x.size - (intOf i).toNat)
  case atStart => exact ⟨0, Nat.zero_le _, rfl, fun j _ h => absurd h (Nat.not_lt_zero _)⟩
  case round =>
    obtain ⟨k, hk, rfl, hall⟩ := hrel
    have Hall := Lib.hid hall; clear hall
    by_cases hlt : k < x.size
    · by_cases h61 : (x[k].toNat : Int) = 61
      · have Hnm := Lib.hid (name_at hk Hall.out (.inr ⟨hlt, h61⟩))
        exact absurd (hth.out.symm.trans Hnm.out.2.1) (by simp [hlt])
      · have Hst := Lib.hid (at_step Hall.out hlt h61)
        have hne : ((x[k].toNat : Int) != 61) = true := by simp [h61]
        go_wp2_with fail
        go_round
        case rel => exact ⟨k + 1, by omega, by go_num, Hst.out⟩
        case measure => simp [intOf]; omega
    · have Hnm := Lib.hid (name_at hk Hall.out (.inl (by omega)))
      go_wp2_with fail
      refine (ref_Lower _ _ (by rw [ByteArray.size_extract]; omega)).mono ?_; rintro e w1 ⟨rfl, hb1⟩
      rw [← Hnm.out.1, hL.out]
      have HA := Lib.hid (HA0.out.ext hb1)
      have HB := Lib.hid (HB0.out.ext hb1)
      have HE := Lib.hid (HE0.out.trans hb1)
      skip
      have hcl : w1.cell? ⟨w.heap.size, 8, none⟩ = some (.int .i64 d.n2) := HA.out.cell 8
      go_wp2_with fail
      refine (ref_lst d.n2 0 _ (by decide)).mono ?_; rintro e w4 ⟨rfl, hb4⟩
      have hA4 := HA.out.ext hb4
      have hcl4 : w4.cell? ⟨w.heap.size, 8, none⟩ = some (.int .i64 d.n2) := hA4.cell 8
      have hfz4 := hA4.frozen 8
      have HA4 := Lib.hid hA4; clear hA4
      go_wp2_with (first
        | (refine wpList_loadB rfl 48 (.tmp 2) rfl w.heap.size rfl 48 _ (HA4.out.set_ 8 (.int .i64 (lst d.n2 0))) _ Tryz.underlying48 infoD ?_)
        | (refine wpList_storeB rfl 48 (.tmp 4) (.tmp 107) rfl rfl (w.heap.size + 1) _ rfl rfl 48 _ ((HB.out.ext hb4).far (by simp) _) infoD rfl (dArr_one { d with n2 := lst d.n2 0 }) ?_; intro w9 hB9 hx9))
      exact bodyPost_ret (v := .agg (dArr { d with n2 := lst d.n2 0 })) (results_cell_row rfl _ _ (w.heap.size + 1) 48 _ (0, 0) _ rfl hB9 Tryz.underlying48 rfl infoD) rfl ⟨congrArg (fun z => Ending.returned (.agg (dArr z))) Hk.out.symm, ((HE.out.trans hb4).setCell (p := ⟨w.heap.size, 8, none⟩) (Nat.le_refl _) _).growB hx9 (by omega)⟩
set_option maxHeartbeats 1000000 in
set_option maxRecDepth 100000 in
theorem with_0_10 (d : D) (x L : ByteArray) (w : World) (hs : x.size ≤ 1048576) (hth : Hid (thE x = false)) (hL : Hid (lowS (eqName x) = L)) (h0 : (L.toList == [110, 111, 45, 115, 116, 111, 114, 101]) = false) (h1 : (L.toList == [110, 111, 45, 99, 97, 99, 104, 101]) = false) (h2 : (L.toList == [112, 114, 105, 118, 97, 116, 101]) = false) (h3 : (L.toList == [112, 117, 98, 108, 105, 99]) = false) (h4 : (L.toList == [109, 117, 115, 116, 45, 114, 101, 118, 97, 108, 105, 100, 97, 116, 101]) = false) (h5 : (L.toList == [112, 114, 111, 120, 121, 45, 114, 101, 118, 97, 108, 105, 100, 97, 116, 101]) = false) (h6 : (L.toList == [111, 110, 108, 121, 45, 105, 102, 45, 99, 97, 99, 104, 101, 100]) = false) (h7 : (L.toList == [109, 97, 120, 45, 97, 103, 101]) = false) (h8 : (L.toList == [115, 45, 109, 97, 120, 97, 103, 101]) = false) (h9 : (L.toList == [115, 116, 97, 108, 101, 45, 119, 104, 105, 108, 101, 45, 114, 101, 118, 97, 108, 105, 100, 97, 116, 101]) = false) (h10 : (L.toList == [115, 116, 97, 108, 101, 45, 105, 102, 45, 101, 114, 114, 111, 114]) = true) :
    Calls Tryz.prog 57 #[.agg (dArr d), .string x] w fun e w' => e = .returned (.agg (dArr (stepD d x))) ∧ Ext w w' := by
  have Hk := Lib.hid (show stepD d x = stepK d 10 0 2147483647 2147483647 by unfold stepD; rw [hL.out, kind_10 h0 h1 h2 h3 h4 h5 h6 h7 h8 h9 h10, hth.out, timeK_no 0 0, timeK_no 0 2147483647, timeK_no 2147483647 2147483647])
  have hA : Blk ((w.alloc (.cells (dArr d) 48)).alloc (.cells #[.bool false, .bool false, .bool false, .bool false, .bool false, .bool false, .int .i64 0, .int .i64 0, .int .i64 0, .int .i64 0, .int .i64 0, .int .i64 0] 48)) w.heap.size 48 (dArr d) := (Blk.new w _ _).alloc _
  have hB : Blk ((w.alloc (.cells (dArr d) 48)).alloc (.cells #[.bool false, .bool false, .bool false, .bool false, .bool false, .bool false, .int .i64 0, .int .i64 0, .int .i64 0, .int .i64 0, .int .i64 0, .int .i64 0] 48)) (w.heap.size + 1) 48 #[.bool false, .bool false, .bool false, .bool false, .bool false, .bool false, .int .i64 0, .int .i64 0, .int .i64 0, .int .i64 0, .int .i64 0, .int .i64 0] := by have := Blk.new (w.alloc (.cells (dArr d) 48)) 48 #[.bool false, .bool false, .bool false, .bool false, .bool false, .bool false, .int .i64 0, .int .i64 0, .int .i64 0, .int .i64 0, .int .i64 0, .int .i64 0]; rwa [World.size_alloc] at this
  have hE : Ext w ((w.alloc (.cells (dArr d) 48)).alloc (.cells #[.bool false, .bool false, .bool false, .bool false, .bool false, .bool false, .int .i64 0, .int .i64 0, .int .i64 0, .int .i64 0, .int .i64 0, .int .i64 0] 48)) := ((Ext.refl w).alloc _).alloc _
  have HA0 := Lib.hid hA; have HB0 := Lib.hid hB; have HE0 := Lib.hid hE; clear hA hB hE
  go_enter Tryz.func57, Tryz.ntmps57
  go_wp2_with fail
  generalize (w.alloc (.cells (dArr d) 48)).alloc (.cells #[.bool false, .bool false, .bool false, .bool false, .bool false, .bool false, .int .i64 0, .int .i64 0, .int .i64 0, .int .i64 0, .int .i64 0, .int .i64 0] 48) = W0 at *
  go_loop [5] (fun i => ∃ k : Nat, k ≤ x.size ∧ i = .int .i64 k ∧ ∀ j (hj : j < x.size), j < k → ¬ (x[j].toNat : Int) = 61) (fun i => x.size - (intOf i).toNat)
  case atStart => exact ⟨0, Nat.zero_le _, rfl, fun j _ h => absurd h (Nat.not_lt_zero _)⟩
  case round =>
    obtain ⟨k, hk, rfl, hall⟩ := hrel
    have Hall := Lib.hid hall; clear hall
    by_cases hlt : k < x.size
    · by_cases h61 : (x[k].toNat : Int) = 61
      · have Hnm := Lib.hid (name_at hk Hall.out (.inr ⟨hlt, h61⟩))
        exact absurd (hth.out.symm.trans Hnm.out.2.1) (by simp [hlt])
      · have Hst := Lib.hid (at_step Hall.out hlt h61)
        have hne : ((x[k].toNat : Int) != 61) = true := by simp [h61]
        go_wp2_with fail
        go_round
        case rel => exact ⟨k + 1, by omega, by go_num, Hst.out⟩
        case measure => simp [intOf]; omega
    · have Hnm := Lib.hid (name_at hk Hall.out (.inl (by omega)))
      go_wp2_with fail
      refine (ref_Lower _ _ (by rw [ByteArray.size_extract]; omega)).mono ?_; rintro e w1 ⟨rfl, hb1⟩
      rw [← Hnm.out.1, hL.out]
      have HA := Lib.hid (HA0.out.ext hb1)
      have HB := Lib.hid (HB0.out.ext hb1)
      have HE := Lib.hid (HE0.out.trans hb1)
      skip
      have hcl : w1.cell? ⟨w.heap.size, 9, none⟩ = some (.int .i64 d.n3) := HA.out.cell 9
      go_wp2_with fail
      refine (ref_lst d.n3 0 _ (by decide)).mono ?_; rintro e w4 ⟨rfl, hb4⟩
      have hA4 := HA.out.ext hb4
      have hcl4 : w4.cell? ⟨w.heap.size, 9, none⟩ = some (.int .i64 d.n3) := hA4.cell 9
      have hfz4 := hA4.frozen 9
      have HA4 := Lib.hid hA4; clear hA4
      go_wp2_with (first
        | (refine wpList_loadB rfl 48 (.tmp 2) rfl w.heap.size rfl 48 _ (HA4.out.set_ 9 (.int .i64 (lst d.n3 0))) _ Tryz.underlying48 infoD ?_)
        | (refine wpList_storeB rfl 48 (.tmp 4) (.tmp 107) rfl rfl (w.heap.size + 1) _ rfl rfl 48 _ ((HB.out.ext hb4).far (by simp) _) infoD rfl (dArr_one { d with n3 := lst d.n3 0 }) ?_; intro w9 hB9 hx9))
      exact bodyPost_ret (v := .agg (dArr { d with n3 := lst d.n3 0 })) (results_cell_row rfl _ _ (w.heap.size + 1) 48 _ (0, 0) _ rfl hB9 Tryz.underlying48 rfl infoD) rfl ⟨congrArg (fun z => Ending.returned (.agg (dArr z))) Hk.out.symm, ((HE.out.trans hb4).setCell (p := ⟨w.heap.size, 9, none⟩) (Nat.le_refl _) _).growB hx9 (by omega)⟩
set_option maxHeartbeats 1000000 in
set_option maxRecDepth 100000 in
theorem with_0_11 (d : D) (x L : ByteArray) (w : World) (hs : x.size ≤ 1048576) (hth : Hid (thE x = false)) (hL : Hid (lowS (eqName x) = L)) (h0 : (L.toList == [110, 111, 45, 115, 116, 111, 114, 101]) = false) (h1 : (L.toList == [110, 111, 45, 99, 97, 99, 104, 101]) = false) (h2 : (L.toList == [112, 114, 105, 118, 97, 116, 101]) = false) (h3 : (L.toList == [112, 117, 98, 108, 105, 99]) = false) (h4 : (L.toList == [109, 117, 115, 116, 45, 114, 101, 118, 97, 108, 105, 100, 97, 116, 101]) = false) (h5 : (L.toList == [112, 114, 111, 120, 121, 45, 114, 101, 118, 97, 108, 105, 100, 97, 116, 101]) = false) (h6 : (L.toList == [111, 110, 108, 121, 45, 105, 102, 45, 99, 97, 99, 104, 101, 100]) = false) (h7 : (L.toList == [109, 97, 120, 45, 97, 103, 101]) = false) (h8 : (L.toList == [115, 45, 109, 97, 120, 97, 103, 101]) = false) (h9 : (L.toList == [115, 116, 97, 108, 101, 45, 119, 104, 105, 108, 101, 45, 114, 101, 118, 97, 108, 105, 100, 97, 116, 101]) = false) (h10 : (L.toList == [115, 116, 97, 108, 101, 45, 105, 102, 45, 101, 114, 114, 111, 114]) = false) (h11 : (L.toList == [109, 97, 120, 45, 115, 116, 97, 108, 101]) = true) :
    Calls Tryz.prog 57 #[.agg (dArr d), .string x] w fun e w' => e = .returned (.agg (dArr (stepD d x))) ∧ Ext w w' := by
  have Hk := Lib.hid (show stepD d x = stepK d 11 0 2147483647 2147483647 by unfold stepD; rw [hL.out, kind_11 h0 h1 h2 h3 h4 h5 h6 h7 h8 h9 h10 h11, hth.out, timeK_no 0 0, timeK_no 0 2147483647, timeK_no 2147483647 2147483647])
  have hA : Blk ((w.alloc (.cells (dArr d) 48)).alloc (.cells #[.bool false, .bool false, .bool false, .bool false, .bool false, .bool false, .int .i64 0, .int .i64 0, .int .i64 0, .int .i64 0, .int .i64 0, .int .i64 0] 48)) w.heap.size 48 (dArr d) := (Blk.new w _ _).alloc _
  have hB : Blk ((w.alloc (.cells (dArr d) 48)).alloc (.cells #[.bool false, .bool false, .bool false, .bool false, .bool false, .bool false, .int .i64 0, .int .i64 0, .int .i64 0, .int .i64 0, .int .i64 0, .int .i64 0] 48)) (w.heap.size + 1) 48 #[.bool false, .bool false, .bool false, .bool false, .bool false, .bool false, .int .i64 0, .int .i64 0, .int .i64 0, .int .i64 0, .int .i64 0, .int .i64 0] := by have := Blk.new (w.alloc (.cells (dArr d) 48)) 48 #[.bool false, .bool false, .bool false, .bool false, .bool false, .bool false, .int .i64 0, .int .i64 0, .int .i64 0, .int .i64 0, .int .i64 0, .int .i64 0]; rwa [World.size_alloc] at this
  have hE : Ext w ((w.alloc (.cells (dArr d) 48)).alloc (.cells #[.bool false, .bool false, .bool false, .bool false, .bool false, .bool false, .int .i64 0, .int .i64 0, .int .i64 0, .int .i64 0, .int .i64 0, .int .i64 0] 48)) := ((Ext.refl w).alloc _).alloc _
  have HA0 := Lib.hid hA; have HB0 := Lib.hid hB; have HE0 := Lib.hid hE; clear hA hB hE
  go_enter Tryz.func57, Tryz.ntmps57
  go_wp2_with fail
  generalize (w.alloc (.cells (dArr d) 48)).alloc (.cells #[.bool false, .bool false, .bool false, .bool false, .bool false, .bool false, .int .i64 0, .int .i64 0, .int .i64 0, .int .i64 0, .int .i64 0, .int .i64 0] 48) = W0 at *
  go_loop [5] (fun i => ∃ k : Nat, k ≤ x.size ∧ i = .int .i64 k ∧ ∀ j (hj : j < x.size), j < k → ¬ (x[j].toNat : Int) = 61) (fun i => x.size - (intOf i).toNat)
  case atStart => exact ⟨0, Nat.zero_le _, rfl, fun j _ h => absurd h (Nat.not_lt_zero _)⟩
  case round =>
    obtain ⟨k, hk, rfl, hall⟩ := hrel
    have Hall := Lib.hid hall; clear hall
    by_cases hlt : k < x.size
    · by_cases h61 : (x[k].toNat : Int) = 61
      · have Hnm := Lib.hid (name_at hk Hall.out (.inr ⟨hlt, h61⟩))
        exact absurd (hth.out.symm.trans Hnm.out.2.1) (by simp [hlt])
      · have Hst := Lib.hid (at_step Hall.out hlt h61)
        have hne : ((x[k].toNat : Int) != 61) = true := by simp [h61]
        go_wp2_with fail
        go_round
        case rel => exact ⟨k + 1, by omega, by go_num, Hst.out⟩
        case measure => simp [intOf]; omega
    · have Hnm := Lib.hid (name_at hk Hall.out (.inl (by omega)))
      go_wp2_with fail
      refine (ref_Lower _ _ (by rw [ByteArray.size_extract]; omega)).mono ?_; rintro e w1 ⟨rfl, hb1⟩
      rw [← Hnm.out.1, hL.out]
      have HA := Lib.hid (HA0.out.ext hb1)
      have HB := Lib.hid (HB0.out.ext hb1)
      have HE := Lib.hid (HE0.out.trans hb1)
      skip
      have hcl : w1.cell? ⟨w.heap.size, 10, none⟩ = some (.int .i64 d.n4) := HA.out.cell 10
      go_wp2_with fail
      refine (ref_lst d.n4 2147483647 _ (by decide)).mono ?_; rintro e w4 ⟨rfl, hb4⟩
      have hA4 := HA.out.ext hb4
      have hcl4 : w4.cell? ⟨w.heap.size, 10, none⟩ = some (.int .i64 d.n4) := hA4.cell 10
      have hfz4 := hA4.frozen 10
      have HA4 := Lib.hid hA4; clear hA4
      go_wp2_with (first
        | (refine wpList_loadB rfl 48 (.tmp 2) rfl w.heap.size rfl 48 _ (HA4.out.set_ 10 (.int .i64 (lst d.n4 2147483647))) _ Tryz.underlying48 infoD ?_)
        | (refine wpList_storeB rfl 48 (.tmp 4) (.tmp 107) rfl rfl (w.heap.size + 1) _ rfl rfl 48 _ ((HB.out.ext hb4).far (by simp) _) infoD rfl (dArr_one { d with n4 := lst d.n4 2147483647 }) ?_; intro w9 hB9 hx9))
      exact bodyPost_ret (v := .agg (dArr { d with n4 := lst d.n4 2147483647 })) (results_cell_row rfl _ _ (w.heap.size + 1) 48 _ (0, 0) _ rfl hB9 Tryz.underlying48 rfl infoD) rfl ⟨congrArg (fun z => Ending.returned (.agg (dArr z))) Hk.out.symm, ((HE.out.trans hb4).setCell (p := ⟨w.heap.size, 10, none⟩) (Nat.le_refl _) _).growB hx9 (by omega)⟩
set_option maxHeartbeats 1000000 in
set_option maxRecDepth 100000 in
theorem with_0_12 (d : D) (x L : ByteArray) (w : World) (hs : x.size ≤ 1048576) (hth : Hid (thE x = false)) (hL : Hid (lowS (eqName x) = L)) (h0 : (L.toList == [110, 111, 45, 115, 116, 111, 114, 101]) = false) (h1 : (L.toList == [110, 111, 45, 99, 97, 99, 104, 101]) = false) (h2 : (L.toList == [112, 114, 105, 118, 97, 116, 101]) = false) (h3 : (L.toList == [112, 117, 98, 108, 105, 99]) = false) (h4 : (L.toList == [109, 117, 115, 116, 45, 114, 101, 118, 97, 108, 105, 100, 97, 116, 101]) = false) (h5 : (L.toList == [112, 114, 111, 120, 121, 45, 114, 101, 118, 97, 108, 105, 100, 97, 116, 101]) = false) (h6 : (L.toList == [111, 110, 108, 121, 45, 105, 102, 45, 99, 97, 99, 104, 101, 100]) = false) (h7 : (L.toList == [109, 97, 120, 45, 97, 103, 101]) = false) (h8 : (L.toList == [115, 45, 109, 97, 120, 97, 103, 101]) = false) (h9 : (L.toList == [115, 116, 97, 108, 101, 45, 119, 104, 105, 108, 101, 45, 114, 101, 118, 97, 108, 105, 100, 97, 116, 101]) = false) (h10 : (L.toList == [115, 116, 97, 108, 101, 45, 105, 102, 45, 101, 114, 114, 111, 114]) = false) (h11 : (L.toList == [109, 97, 120, 45, 115, 116, 97, 108, 101]) = false) (h12 : (L.toList == [109, 105, 110, 45, 102, 114, 101, 115, 104]) = true) :
    Calls Tryz.prog 57 #[.agg (dArr d), .string x] w fun e w' => e = .returned (.agg (dArr (stepD d x))) ∧ Ext w w' := by
  have Hk := Lib.hid (show stepD d x = stepK d 12 0 2147483647 2147483647 by unfold stepD; rw [hL.out, kind_12 h0 h1 h2 h3 h4 h5 h6 h7 h8 h9 h10 h11 h12, hth.out, timeK_no 0 0, timeK_no 0 2147483647, timeK_no 2147483647 2147483647])
  have hA : Blk ((w.alloc (.cells (dArr d) 48)).alloc (.cells #[.bool false, .bool false, .bool false, .bool false, .bool false, .bool false, .int .i64 0, .int .i64 0, .int .i64 0, .int .i64 0, .int .i64 0, .int .i64 0] 48)) w.heap.size 48 (dArr d) := (Blk.new w _ _).alloc _
  have hB : Blk ((w.alloc (.cells (dArr d) 48)).alloc (.cells #[.bool false, .bool false, .bool false, .bool false, .bool false, .bool false, .int .i64 0, .int .i64 0, .int .i64 0, .int .i64 0, .int .i64 0, .int .i64 0] 48)) (w.heap.size + 1) 48 #[.bool false, .bool false, .bool false, .bool false, .bool false, .bool false, .int .i64 0, .int .i64 0, .int .i64 0, .int .i64 0, .int .i64 0, .int .i64 0] := by have := Blk.new (w.alloc (.cells (dArr d) 48)) 48 #[.bool false, .bool false, .bool false, .bool false, .bool false, .bool false, .int .i64 0, .int .i64 0, .int .i64 0, .int .i64 0, .int .i64 0, .int .i64 0]; rwa [World.size_alloc] at this
  have hE : Ext w ((w.alloc (.cells (dArr d) 48)).alloc (.cells #[.bool false, .bool false, .bool false, .bool false, .bool false, .bool false, .int .i64 0, .int .i64 0, .int .i64 0, .int .i64 0, .int .i64 0, .int .i64 0] 48)) := ((Ext.refl w).alloc _).alloc _
  have HA0 := Lib.hid hA; have HB0 := Lib.hid hB; have HE0 := Lib.hid hE; clear hA hB hE
  go_enter Tryz.func57, Tryz.ntmps57
  go_wp2_with fail
  generalize (w.alloc (.cells (dArr d) 48)).alloc (.cells #[.bool false, .bool false, .bool false, .bool false, .bool false, .bool false, .int .i64 0, .int .i64 0, .int .i64 0, .int .i64 0, .int .i64 0, .int .i64 0] 48) = W0 at *
  go_loop [5] (fun i => ∃ k : Nat, k ≤ x.size ∧ i = .int .i64 k ∧ ∀ j (hj : j < x.size), j < k → ¬ (x[j].toNat : Int) = 61) (fun i => x.size - (intOf i).toNat)
  case atStart => exact ⟨0, Nat.zero_le _, rfl, fun j _ h => absurd h (Nat.not_lt_zero _)⟩
  case round =>
    obtain ⟨k, hk, rfl, hall⟩ := hrel
    have Hall := Lib.hid hall; clear hall
    by_cases hlt : k < x.size
    · by_cases h61 : (x[k].toNat : Int) = 61
      · have Hnm := Lib.hid (name_at hk Hall.out (.inr ⟨hlt, h61⟩))
        exact absurd (hth.out.symm.trans Hnm.out.2.1) (by simp [hlt])
      · have Hst := Lib.hid (at_step Hall.out hlt h61)
        have hne : ((x[k].toNat : Int) != 61) = true := by simp [h61]
        go_wp2_with fail
        go_round
        case rel => exact ⟨k + 1, by omega, by go_num, Hst.out⟩
        case measure => simp [intOf]; omega
    · have Hnm := Lib.hid (name_at hk Hall.out (.inl (by omega)))
      go_wp2_with fail
      refine (ref_Lower _ _ (by rw [ByteArray.size_extract]; omega)).mono ?_; rintro e w1 ⟨rfl, hb1⟩
      rw [← Hnm.out.1, hL.out]
      have HA := Lib.hid (HA0.out.ext hb1)
      have HB := Lib.hid (HB0.out.ext hb1)
      have HE := Lib.hid (HE0.out.trans hb1)
      skip
      have hcl : w1.cell? ⟨w.heap.size, 11, none⟩ = some (.int .i64 d.n5) := HA.out.cell 11
      have hfz := HA.out.frozen 11
      go_wp2_with (first
        | (refine wpList_loadB rfl 48 (.tmp 2) rfl w.heap.size rfl 48 _ (HA.out.set_ 11 (.int .i64 (max d.n5 2147483647))) _ Tryz.underlying48 infoD ?_)
        | (refine wpList_storeB rfl 48 (.tmp 4) (.tmp 107) rfl rfl (w.heap.size + 1) _ rfl rfl 48 _ (HB.out.far (by simp) _) infoD rfl (dArr_one { d with n5 := max d.n5 2147483647 }) ?_; intro w9 hB9 hx9))
      exact bodyPost_ret (v := .agg (dArr { d with n5 := max d.n5 2147483647 })) (results_cell_row rfl _ _ (w.heap.size + 1) 48 _ (0, 0) _ rfl hB9 Tryz.underlying48 rfl infoD) rfl ⟨congrArg (fun z => Ending.returned (.agg (dArr z))) Hk.out.symm, (HE.out.setCell (p := ⟨w.heap.size, 11, none⟩) (Nat.le_refl _) _).growB hx9 (by omega)⟩
set_option maxHeartbeats 1000000 in
set_option maxRecDepth 100000 in
theorem with_0_13 (d : D) (x L : ByteArray) (w : World) (hs : x.size ≤ 1048576) (hth : Hid (thE x = false)) (hL : Hid (lowS (eqName x) = L)) (h0 : (L.toList == [110, 111, 45, 115, 116, 111, 114, 101]) = false) (h1 : (L.toList == [110, 111, 45, 99, 97, 99, 104, 101]) = false) (h2 : (L.toList == [112, 114, 105, 118, 97, 116, 101]) = false) (h3 : (L.toList == [112, 117, 98, 108, 105, 99]) = false) (h4 : (L.toList == [109, 117, 115, 116, 45, 114, 101, 118, 97, 108, 105, 100, 97, 116, 101]) = false) (h5 : (L.toList == [112, 114, 111, 120, 121, 45, 114, 101, 118, 97, 108, 105, 100, 97, 116, 101]) = false) (h6 : (L.toList == [111, 110, 108, 121, 45, 105, 102, 45, 99, 97, 99, 104, 101, 100]) = false) (h7 : (L.toList == [109, 97, 120, 45, 97, 103, 101]) = false) (h8 : (L.toList == [115, 45, 109, 97, 120, 97, 103, 101]) = false) (h9 : (L.toList == [115, 116, 97, 108, 101, 45, 119, 104, 105, 108, 101, 45, 114, 101, 118, 97, 108, 105, 100, 97, 116, 101]) = false) (h10 : (L.toList == [115, 116, 97, 108, 101, 45, 105, 102, 45, 101, 114, 114, 111, 114]) = false) (h11 : (L.toList == [109, 97, 120, 45, 115, 116, 97, 108, 101]) = false) (h12 : (L.toList == [109, 105, 110, 45, 102, 114, 101, 115, 104]) = false) :
    Calls Tryz.prog 57 #[.agg (dArr d), .string x] w fun e w' => e = .returned (.agg (dArr (stepD d x))) ∧ Ext w w' := by
  have Hk := Lib.hid (show stepD d x = stepK d 13 0 2147483647 2147483647 by unfold stepD; rw [hL.out, kind_13 h0 h1 h2 h3 h4 h5 h6 h7 h8 h9 h10 h11 h12, hth.out, timeK_no 0 0, timeK_no 0 2147483647, timeK_no 2147483647 2147483647])
  have hA : Blk ((w.alloc (.cells (dArr d) 48)).alloc (.cells #[.bool false, .bool false, .bool false, .bool false, .bool false, .bool false, .int .i64 0, .int .i64 0, .int .i64 0, .int .i64 0, .int .i64 0, .int .i64 0] 48)) w.heap.size 48 (dArr d) := (Blk.new w _ _).alloc _
  have hB : Blk ((w.alloc (.cells (dArr d) 48)).alloc (.cells #[.bool false, .bool false, .bool false, .bool false, .bool false, .bool false, .int .i64 0, .int .i64 0, .int .i64 0, .int .i64 0, .int .i64 0, .int .i64 0] 48)) (w.heap.size + 1) 48 #[.bool false, .bool false, .bool false, .bool false, .bool false, .bool false, .int .i64 0, .int .i64 0, .int .i64 0, .int .i64 0, .int .i64 0, .int .i64 0] := by have := Blk.new (w.alloc (.cells (dArr d) 48)) 48 #[.bool false, .bool false, .bool false, .bool false, .bool false, .bool false, .int .i64 0, .int .i64 0, .int .i64 0, .int .i64 0, .int .i64 0, .int .i64 0]; rwa [World.size_alloc] at this
  have hE : Ext w ((w.alloc (.cells (dArr d) 48)).alloc (.cells #[.bool false, .bool false, .bool false, .bool false, .bool false, .bool false, .int .i64 0, .int .i64 0, .int .i64 0, .int .i64 0, .int .i64 0, .int .i64 0] 48)) := ((Ext.refl w).alloc _).alloc _
  have HA0 := Lib.hid hA; have HB0 := Lib.hid hB; have HE0 := Lib.hid hE; clear hA hB hE
  go_enter Tryz.func57, Tryz.ntmps57
  go_wp2_with fail
  generalize (w.alloc (.cells (dArr d) 48)).alloc (.cells #[.bool false, .bool false, .bool false, .bool false, .bool false, .bool false, .int .i64 0, .int .i64 0, .int .i64 0, .int .i64 0, .int .i64 0, .int .i64 0] 48) = W0 at *
  go_loop [5] (fun i => ∃ k : Nat, k ≤ x.size ∧ i = .int .i64 k ∧ ∀ j (hj : j < x.size), j < k → ¬ (x[j].toNat : Int) = 61) (fun i => x.size - (intOf i).toNat)
  case atStart => exact ⟨0, Nat.zero_le _, rfl, fun j _ h => absurd h (Nat.not_lt_zero _)⟩
  case round =>
    obtain ⟨k, hk, rfl, hall⟩ := hrel
    have Hall := Lib.hid hall; clear hall
    by_cases hlt : k < x.size
    · by_cases h61 : (x[k].toNat : Int) = 61
      · have Hnm := Lib.hid (name_at hk Hall.out (.inr ⟨hlt, h61⟩))
        exact absurd (hth.out.symm.trans Hnm.out.2.1) (by simp [hlt])
      · have Hst := Lib.hid (at_step Hall.out hlt h61)
        have hne : ((x[k].toNat : Int) != 61) = true := by simp [h61]
        go_wp2_with fail
        go_round
        case rel => exact ⟨k + 1, by omega, by go_num, Hst.out⟩
        case measure => simp [intOf]; omega
    · have Hnm := Lib.hid (name_at hk Hall.out (.inl (by omega)))
      go_wp2_with fail
      refine (ref_Lower _ _ (by rw [ByteArray.size_extract]; omega)).mono ?_; rintro e w1 ⟨rfl, hb1⟩
      rw [← Hnm.out.1, hL.out]
      have HA := Lib.hid (HA0.out.ext hb1)
      have HB := Lib.hid (HB0.out.ext hb1)
      have HE := Lib.hid (HE0.out.trans hb1)
      skip
      go_wp2_with (first
        | (refine wpList_loadB rfl 48 (.tmp 2) rfl w.heap.size rfl 48 _ (HA.out) _ Tryz.underlying48 infoD ?_)
        | (refine wpList_storeB rfl 48 (.tmp 4) (.tmp 107) rfl rfl (w.heap.size + 1) _ rfl rfl 48 _ (HB.out) infoD rfl (dArr_one d) ?_; intro w9 hB9 hx9))
      exact bodyPost_ret (v := .agg (dArr d)) (results_cell_row rfl _ _ (w.heap.size + 1) 48 _ (0, 0) _ rfl hB9 Tryz.underlying48 rfl infoD) rfl ⟨congrArg (fun z => Ending.returned (.agg (dArr z))) Hk.out.symm, (HE.out).growB hx9 (by omega)⟩
set_option maxHeartbeats 1000000 in
set_option maxRecDepth 100000 in
theorem with_1_0 (d : D) (x L : ByteArray) (w : World) (hs : x.size ≤ 1048576) (hth : Hid (thE x = true)) (hok : Hid (okQ (argE x) = true)) (hL : Hid (lowS (eqName x) = L)) (h0 : (L.toList == [110, 111, 45, 115, 116, 111, 114, 101]) = true) :
    Calls Tryz.prog 57 #[.agg (dArr d), .string x] w fun e w' => e = .returned (.agg (dArr (stepD d x))) ∧ Ext w w' := by
  have Hk := Lib.hid (show stepD d x = stepK d 0 (numQ (argE x)) (numQ (argE x)) (numQ (argE x)) by unfold stepD; rw [hL.out, kind_0 h0, hth.out, timeK_yes 0 0 hok.out, timeK_yes 0 2147483647 hok.out, timeK_yes 2147483647 2147483647 hok.out])
  have hn0 : 0 ≤ numQ (argE x) := (numQ_range _).1
  have hA : Blk ((w.alloc (.cells (dArr d) 48)).alloc (.cells #[.bool false, .bool false, .bool false, .bool false, .bool false, .bool false, .int .i64 0, .int .i64 0, .int .i64 0, .int .i64 0, .int .i64 0, .int .i64 0] 48)) w.heap.size 48 (dArr d) := (Blk.new w _ _).alloc _
  have hB : Blk ((w.alloc (.cells (dArr d) 48)).alloc (.cells #[.bool false, .bool false, .bool false, .bool false, .bool false, .bool false, .int .i64 0, .int .i64 0, .int .i64 0, .int .i64 0, .int .i64 0, .int .i64 0] 48)) (w.heap.size + 1) 48 #[.bool false, .bool false, .bool false, .bool false, .bool false, .bool false, .int .i64 0, .int .i64 0, .int .i64 0, .int .i64 0, .int .i64 0, .int .i64 0] := by have := Blk.new (w.alloc (.cells (dArr d) 48)) 48 #[.bool false, .bool false, .bool false, .bool false, .bool false, .bool false, .int .i64 0, .int .i64 0, .int .i64 0, .int .i64 0, .int .i64 0, .int .i64 0]; rwa [World.size_alloc] at this
  have hE : Ext w ((w.alloc (.cells (dArr d) 48)).alloc (.cells #[.bool false, .bool false, .bool false, .bool false, .bool false, .bool false, .int .i64 0, .int .i64 0, .int .i64 0, .int .i64 0, .int .i64 0, .int .i64 0] 48)) := ((Ext.refl w).alloc _).alloc _
  have HA0 := Lib.hid hA; have HB0 := Lib.hid hB; have HE0 := Lib.hid hE; clear hA hB hE
  go_enter Tryz.func57, Tryz.ntmps57
  go_wp2_with fail
  generalize (w.alloc (.cells (dArr d) 48)).alloc (.cells #[.bool false, .bool false, .bool false, .bool false, .bool false, .bool false, .int .i64 0, .int .i64 0, .int .i64 0, .int .i64 0, .int .i64 0, .int .i64 0] 48) = W0 at *
  go_loop [5] (fun i => ∃ k : Nat, k ≤ x.size ∧ i = .int .i64 k ∧ ∀ j (hj : j < x.size), j < k → ¬ (x[j].toNat : Int) = 61) (fun i => x.size - (intOf i).toNat)
  case atStart => exact ⟨0, Nat.zero_le _, rfl, fun j _ h => absurd h (Nat.not_lt_zero _)⟩
  case round =>
    obtain ⟨k, hk, rfl, hall⟩ := hrel
    have Hall := Lib.hid hall; clear hall
    by_cases hlt : k < x.size
    · by_cases h61 : (x[k].toNat : Int) = 61
      · have Hnm := Lib.hid (name_at hk Hall.out (.inr ⟨hlt, h61⟩))
        have hne : ((x[k].toNat : Int) != 61) = false := by simp [h61]
        go_wp2_with fail
        refine (ref_Lower _ _ (by rw [ByteArray.size_extract]; omega)).mono ?_; rintro e w1 ⟨rfl, hb1⟩
        rw [← Hnm.out.1, hL.out]
        go_wp2_with fail
        refine (ref_number _ _ (by rw [ByteArray.size_extract]; omega)).mono ?_; rintro e w3 ⟨rfl, hb3⟩
        rw [← Hnm.out.2.2 hlt, hok.out]
        have HA := Lib.hid ((HA0.out.ext hb1).ext hb3)
        have HB := Lib.hid ((HB0.out.ext hb1).ext hb3)
        have HE := Lib.hid ((HE0.out.trans hb1).trans hb3)
        have hcl : w3.cell? ⟨w.heap.size, 0, none⟩ = some (.bool d.b0) := HA.out.cell 0
        have hfz := HA.out.frozen 0
        go_wp2_with (first
          | (refine wpList_loadB rfl 48 (.tmp 2) rfl w.heap.size rfl 48 _ (HA.out.set_ 0 (.bool true)) _ Tryz.underlying48 infoD ?_)
          | (refine wpList_storeB rfl 48 (.tmp 4) (.tmp 107) rfl rfl (w.heap.size + 1) _ rfl rfl 48 _ (HB.out.far (by simp) _) infoD rfl (dArr_one { d with b0 := true }) ?_; intro w9 hB9 hx9))
        exact bodyPost_ret (v := .agg (dArr { d with b0 := true })) (results_cell_row rfl _ _ (w.heap.size + 1) 48 _ (0, 0) _ rfl hB9 Tryz.underlying48 rfl infoD) rfl ⟨congrArg (fun z => Ending.returned (.agg (dArr z))) Hk.out.symm, (HE.out.setCell (p := ⟨w.heap.size, 0, none⟩) (Nat.le_refl _) _).growB hx9 (by omega)⟩
      · have Hst := Lib.hid (at_step Hall.out hlt h61)
        have hne : ((x[k].toNat : Int) != 61) = true := by simp [h61]
        go_wp2_with fail
        go_round
        case rel => exact ⟨k + 1, by omega, by go_num, Hst.out⟩
        case measure => simp [intOf]; omega
    · have Hnm := Lib.hid (name_at hk Hall.out (.inl (by omega)))
      exact absurd (hth.out.symm.trans Hnm.out.2.1) (by simp [hlt])
set_option maxHeartbeats 1000000 in
set_option maxRecDepth 100000 in
theorem with_1_1 (d : D) (x L : ByteArray) (w : World) (hs : x.size ≤ 1048576) (hth : Hid (thE x = true)) (hok : Hid (okQ (argE x) = true)) (hL : Hid (lowS (eqName x) = L)) (h0 : (L.toList == [110, 111, 45, 115, 116, 111, 114, 101]) = false) (h1 : (L.toList == [110, 111, 45, 99, 97, 99, 104, 101]) = true) :
    Calls Tryz.prog 57 #[.agg (dArr d), .string x] w fun e w' => e = .returned (.agg (dArr (stepD d x))) ∧ Ext w w' := by
  have Hk := Lib.hid (show stepD d x = stepK d 1 (numQ (argE x)) (numQ (argE x)) (numQ (argE x)) by unfold stepD; rw [hL.out, kind_1 h0 h1, hth.out, timeK_yes 0 0 hok.out, timeK_yes 0 2147483647 hok.out, timeK_yes 2147483647 2147483647 hok.out])
  have hn0 : 0 ≤ numQ (argE x) := (numQ_range _).1
  have hA : Blk ((w.alloc (.cells (dArr d) 48)).alloc (.cells #[.bool false, .bool false, .bool false, .bool false, .bool false, .bool false, .int .i64 0, .int .i64 0, .int .i64 0, .int .i64 0, .int .i64 0, .int .i64 0] 48)) w.heap.size 48 (dArr d) := (Blk.new w _ _).alloc _
  have hB : Blk ((w.alloc (.cells (dArr d) 48)).alloc (.cells #[.bool false, .bool false, .bool false, .bool false, .bool false, .bool false, .int .i64 0, .int .i64 0, .int .i64 0, .int .i64 0, .int .i64 0, .int .i64 0] 48)) (w.heap.size + 1) 48 #[.bool false, .bool false, .bool false, .bool false, .bool false, .bool false, .int .i64 0, .int .i64 0, .int .i64 0, .int .i64 0, .int .i64 0, .int .i64 0] := by have := Blk.new (w.alloc (.cells (dArr d) 48)) 48 #[.bool false, .bool false, .bool false, .bool false, .bool false, .bool false, .int .i64 0, .int .i64 0, .int .i64 0, .int .i64 0, .int .i64 0, .int .i64 0]; rwa [World.size_alloc] at this
  have hE : Ext w ((w.alloc (.cells (dArr d) 48)).alloc (.cells #[.bool false, .bool false, .bool false, .bool false, .bool false, .bool false, .int .i64 0, .int .i64 0, .int .i64 0, .int .i64 0, .int .i64 0, .int .i64 0] 48)) := ((Ext.refl w).alloc _).alloc _
  have HA0 := Lib.hid hA; have HB0 := Lib.hid hB; have HE0 := Lib.hid hE; clear hA hB hE
  go_enter Tryz.func57, Tryz.ntmps57
  go_wp2_with fail
  generalize (w.alloc (.cells (dArr d) 48)).alloc (.cells #[.bool false, .bool false, .bool false, .bool false, .bool false, .bool false, .int .i64 0, .int .i64 0, .int .i64 0, .int .i64 0, .int .i64 0, .int .i64 0] 48) = W0 at *
  go_loop [5] (fun i => ∃ k : Nat, k ≤ x.size ∧ i = .int .i64 k ∧ ∀ j (hj : j < x.size), j < k → ¬ (x[j].toNat : Int) = 61) (fun i => x.size - (intOf i).toNat)
  case atStart => exact ⟨0, Nat.zero_le _, rfl, fun j _ h => absurd h (Nat.not_lt_zero _)⟩
  case round =>
    obtain ⟨k, hk, rfl, hall⟩ := hrel
    have Hall := Lib.hid hall; clear hall
    by_cases hlt : k < x.size
    · by_cases h61 : (x[k].toNat : Int) = 61
      · have Hnm := Lib.hid (name_at hk Hall.out (.inr ⟨hlt, h61⟩))
        have hne : ((x[k].toNat : Int) != 61) = false := by simp [h61]
        go_wp2_with fail
        refine (ref_Lower _ _ (by rw [ByteArray.size_extract]; omega)).mono ?_; rintro e w1 ⟨rfl, hb1⟩
        rw [← Hnm.out.1, hL.out]
        go_wp2_with fail
        refine (ref_number _ _ (by rw [ByteArray.size_extract]; omega)).mono ?_; rintro e w3 ⟨rfl, hb3⟩
        rw [← Hnm.out.2.2 hlt, hok.out]
        have HA := Lib.hid ((HA0.out.ext hb1).ext hb3)
        have HB := Lib.hid ((HB0.out.ext hb1).ext hb3)
        have HE := Lib.hid ((HE0.out.trans hb1).trans hb3)
        have hcl : w3.cell? ⟨w.heap.size, 1, none⟩ = some (.bool d.b1) := HA.out.cell 1
        have hfz := HA.out.frozen 1
        go_wp2_with (first
          | (refine wpList_loadB rfl 48 (.tmp 2) rfl w.heap.size rfl 48 _ (HA.out.set_ 1 (.bool true)) _ Tryz.underlying48 infoD ?_)
          | (refine wpList_storeB rfl 48 (.tmp 4) (.tmp 107) rfl rfl (w.heap.size + 1) _ rfl rfl 48 _ (HB.out.far (by simp) _) infoD rfl (dArr_one { d with b1 := true }) ?_; intro w9 hB9 hx9))
        exact bodyPost_ret (v := .agg (dArr { d with b1 := true })) (results_cell_row rfl _ _ (w.heap.size + 1) 48 _ (0, 0) _ rfl hB9 Tryz.underlying48 rfl infoD) rfl ⟨congrArg (fun z => Ending.returned (.agg (dArr z))) Hk.out.symm, (HE.out.setCell (p := ⟨w.heap.size, 1, none⟩) (Nat.le_refl _) _).growB hx9 (by omega)⟩
      · have Hst := Lib.hid (at_step Hall.out hlt h61)
        have hne : ((x[k].toNat : Int) != 61) = true := by simp [h61]
        go_wp2_with fail
        go_round
        case rel => exact ⟨k + 1, by omega, by go_num, Hst.out⟩
        case measure => simp [intOf]; omega
    · have Hnm := Lib.hid (name_at hk Hall.out (.inl (by omega)))
      exact absurd (hth.out.symm.trans Hnm.out.2.1) (by simp [hlt])
set_option maxHeartbeats 1000000 in
set_option maxRecDepth 100000 in
theorem with_1_2 (d : D) (x L : ByteArray) (w : World) (hs : x.size ≤ 1048576) (hth : Hid (thE x = true)) (hok : Hid (okQ (argE x) = true)) (hL : Hid (lowS (eqName x) = L)) (h0 : (L.toList == [110, 111, 45, 115, 116, 111, 114, 101]) = false) (h1 : (L.toList == [110, 111, 45, 99, 97, 99, 104, 101]) = false) (h2 : (L.toList == [112, 114, 105, 118, 97, 116, 101]) = true) :
    Calls Tryz.prog 57 #[.agg (dArr d), .string x] w fun e w' => e = .returned (.agg (dArr (stepD d x))) ∧ Ext w w' := by
  have Hk := Lib.hid (show stepD d x = stepK d 2 (numQ (argE x)) (numQ (argE x)) (numQ (argE x)) by unfold stepD; rw [hL.out, kind_2 h0 h1 h2, hth.out, timeK_yes 0 0 hok.out, timeK_yes 0 2147483647 hok.out, timeK_yes 2147483647 2147483647 hok.out])
  have hn0 : 0 ≤ numQ (argE x) := (numQ_range _).1
  have hA : Blk ((w.alloc (.cells (dArr d) 48)).alloc (.cells #[.bool false, .bool false, .bool false, .bool false, .bool false, .bool false, .int .i64 0, .int .i64 0, .int .i64 0, .int .i64 0, .int .i64 0, .int .i64 0] 48)) w.heap.size 48 (dArr d) := (Blk.new w _ _).alloc _
  have hB : Blk ((w.alloc (.cells (dArr d) 48)).alloc (.cells #[.bool false, .bool false, .bool false, .bool false, .bool false, .bool false, .int .i64 0, .int .i64 0, .int .i64 0, .int .i64 0, .int .i64 0, .int .i64 0] 48)) (w.heap.size + 1) 48 #[.bool false, .bool false, .bool false, .bool false, .bool false, .bool false, .int .i64 0, .int .i64 0, .int .i64 0, .int .i64 0, .int .i64 0, .int .i64 0] := by have := Blk.new (w.alloc (.cells (dArr d) 48)) 48 #[.bool false, .bool false, .bool false, .bool false, .bool false, .bool false, .int .i64 0, .int .i64 0, .int .i64 0, .int .i64 0, .int .i64 0, .int .i64 0]; rwa [World.size_alloc] at this
  have hE : Ext w ((w.alloc (.cells (dArr d) 48)).alloc (.cells #[.bool false, .bool false, .bool false, .bool false, .bool false, .bool false, .int .i64 0, .int .i64 0, .int .i64 0, .int .i64 0, .int .i64 0, .int .i64 0] 48)) := ((Ext.refl w).alloc _).alloc _
  have HA0 := Lib.hid hA; have HB0 := Lib.hid hB; have HE0 := Lib.hid hE; clear hA hB hE
  go_enter Tryz.func57, Tryz.ntmps57
  go_wp2_with fail
  generalize (w.alloc (.cells (dArr d) 48)).alloc (.cells #[.bool false, .bool false, .bool false, .bool false, .bool false, .bool false, .int .i64 0, .int .i64 0, .int .i64 0, .int .i64 0, .int .i64 0, .int .i64 0] 48) = W0 at *
  go_loop [5] (fun i => ∃ k : Nat, k ≤ x.size ∧ i = .int .i64 k ∧ ∀ j (hj : j < x.size), j < k → ¬ (x[j].toNat : Int) = 61) (fun i => x.size - (intOf i).toNat)
  case atStart => exact ⟨0, Nat.zero_le _, rfl, fun j _ h => absurd h (Nat.not_lt_zero _)⟩
  case round =>
    obtain ⟨k, hk, rfl, hall⟩ := hrel
    have Hall := Lib.hid hall; clear hall
    by_cases hlt : k < x.size
    · by_cases h61 : (x[k].toNat : Int) = 61
      · have Hnm := Lib.hid (name_at hk Hall.out (.inr ⟨hlt, h61⟩))
        have hne : ((x[k].toNat : Int) != 61) = false := by simp [h61]
        go_wp2_with fail
        refine (ref_Lower _ _ (by rw [ByteArray.size_extract]; omega)).mono ?_; rintro e w1 ⟨rfl, hb1⟩
        rw [← Hnm.out.1, hL.out]
        go_wp2_with fail
        refine (ref_number _ _ (by rw [ByteArray.size_extract]; omega)).mono ?_; rintro e w3 ⟨rfl, hb3⟩
        rw [← Hnm.out.2.2 hlt, hok.out]
        have HA := Lib.hid ((HA0.out.ext hb1).ext hb3)
        have HB := Lib.hid ((HB0.out.ext hb1).ext hb3)
        have HE := Lib.hid ((HE0.out.trans hb1).trans hb3)
        have hcl : w3.cell? ⟨w.heap.size, 2, none⟩ = some (.bool d.b2) := HA.out.cell 2
        have hfz := HA.out.frozen 2
        go_wp2_with (first
          | (refine wpList_loadB rfl 48 (.tmp 2) rfl w.heap.size rfl 48 _ (HA.out.set_ 2 (.bool true)) _ Tryz.underlying48 infoD ?_)
          | (refine wpList_storeB rfl 48 (.tmp 4) (.tmp 107) rfl rfl (w.heap.size + 1) _ rfl rfl 48 _ (HB.out.far (by simp) _) infoD rfl (dArr_one { d with b2 := true }) ?_; intro w9 hB9 hx9))
        exact bodyPost_ret (v := .agg (dArr { d with b2 := true })) (results_cell_row rfl _ _ (w.heap.size + 1) 48 _ (0, 0) _ rfl hB9 Tryz.underlying48 rfl infoD) rfl ⟨congrArg (fun z => Ending.returned (.agg (dArr z))) Hk.out.symm, (HE.out.setCell (p := ⟨w.heap.size, 2, none⟩) (Nat.le_refl _) _).growB hx9 (by omega)⟩
      · have Hst := Lib.hid (at_step Hall.out hlt h61)
        have hne : ((x[k].toNat : Int) != 61) = true := by simp [h61]
        go_wp2_with fail
        go_round
        case rel => exact ⟨k + 1, by omega, by go_num, Hst.out⟩
        case measure => simp [intOf]; omega
    · have Hnm := Lib.hid (name_at hk Hall.out (.inl (by omega)))
      exact absurd (hth.out.symm.trans Hnm.out.2.1) (by simp [hlt])
set_option maxHeartbeats 1000000 in
set_option maxRecDepth 100000 in
theorem with_1_3 (d : D) (x L : ByteArray) (w : World) (hs : x.size ≤ 1048576) (hth : Hid (thE x = true)) (hok : Hid (okQ (argE x) = true)) (hL : Hid (lowS (eqName x) = L)) (h0 : (L.toList == [110, 111, 45, 115, 116, 111, 114, 101]) = false) (h1 : (L.toList == [110, 111, 45, 99, 97, 99, 104, 101]) = false) (h2 : (L.toList == [112, 114, 105, 118, 97, 116, 101]) = false) (h3 : (L.toList == [112, 117, 98, 108, 105, 99]) = true) :
    Calls Tryz.prog 57 #[.agg (dArr d), .string x] w fun e w' => e = .returned (.agg (dArr (stepD d x))) ∧ Ext w w' := by
  have Hk := Lib.hid (show stepD d x = stepK d 3 (numQ (argE x)) (numQ (argE x)) (numQ (argE x)) by unfold stepD; rw [hL.out, kind_3 h0 h1 h2 h3, hth.out, timeK_yes 0 0 hok.out, timeK_yes 0 2147483647 hok.out, timeK_yes 2147483647 2147483647 hok.out])
  have hn0 : 0 ≤ numQ (argE x) := (numQ_range _).1
  have hA : Blk ((w.alloc (.cells (dArr d) 48)).alloc (.cells #[.bool false, .bool false, .bool false, .bool false, .bool false, .bool false, .int .i64 0, .int .i64 0, .int .i64 0, .int .i64 0, .int .i64 0, .int .i64 0] 48)) w.heap.size 48 (dArr d) := (Blk.new w _ _).alloc _
  have hB : Blk ((w.alloc (.cells (dArr d) 48)).alloc (.cells #[.bool false, .bool false, .bool false, .bool false, .bool false, .bool false, .int .i64 0, .int .i64 0, .int .i64 0, .int .i64 0, .int .i64 0, .int .i64 0] 48)) (w.heap.size + 1) 48 #[.bool false, .bool false, .bool false, .bool false, .bool false, .bool false, .int .i64 0, .int .i64 0, .int .i64 0, .int .i64 0, .int .i64 0, .int .i64 0] := by have := Blk.new (w.alloc (.cells (dArr d) 48)) 48 #[.bool false, .bool false, .bool false, .bool false, .bool false, .bool false, .int .i64 0, .int .i64 0, .int .i64 0, .int .i64 0, .int .i64 0, .int .i64 0]; rwa [World.size_alloc] at this
  have hE : Ext w ((w.alloc (.cells (dArr d) 48)).alloc (.cells #[.bool false, .bool false, .bool false, .bool false, .bool false, .bool false, .int .i64 0, .int .i64 0, .int .i64 0, .int .i64 0, .int .i64 0, .int .i64 0] 48)) := ((Ext.refl w).alloc _).alloc _
  have HA0 := Lib.hid hA; have HB0 := Lib.hid hB; have HE0 := Lib.hid hE; clear hA hB hE
  go_enter Tryz.func57, Tryz.ntmps57
  go_wp2_with fail
  generalize (w.alloc (.cells (dArr d) 48)).alloc (.cells #[.bool false, .bool false, .bool false, .bool false, .bool false, .bool false, .int .i64 0, .int .i64 0, .int .i64 0, .int .i64 0, .int .i64 0, .int .i64 0] 48) = W0 at *
  go_loop [5] (fun i => ∃ k : Nat, k ≤ x.size ∧ i = .int .i64 k ∧ ∀ j (hj : j < x.size), j < k → ¬ (x[j].toNat : Int) = 61) (fun i => x.size - (intOf i).toNat)
  case atStart => exact ⟨0, Nat.zero_le _, rfl, fun j _ h => absurd h (Nat.not_lt_zero _)⟩
  case round =>
    obtain ⟨k, hk, rfl, hall⟩ := hrel
    have Hall := Lib.hid hall; clear hall
    by_cases hlt : k < x.size
    · by_cases h61 : (x[k].toNat : Int) = 61
      · have Hnm := Lib.hid (name_at hk Hall.out (.inr ⟨hlt, h61⟩))
        have hne : ((x[k].toNat : Int) != 61) = false := by simp [h61]
        go_wp2_with fail
        refine (ref_Lower _ _ (by rw [ByteArray.size_extract]; omega)).mono ?_; rintro e w1 ⟨rfl, hb1⟩
        rw [← Hnm.out.1, hL.out]
        go_wp2_with fail
        refine (ref_number _ _ (by rw [ByteArray.size_extract]; omega)).mono ?_; rintro e w3 ⟨rfl, hb3⟩
        rw [← Hnm.out.2.2 hlt, hok.out]
        have HA := Lib.hid ((HA0.out.ext hb1).ext hb3)
        have HB := Lib.hid ((HB0.out.ext hb1).ext hb3)
        have HE := Lib.hid ((HE0.out.trans hb1).trans hb3)
        have hcl : w3.cell? ⟨w.heap.size, 3, none⟩ = some (.bool d.b3) := HA.out.cell 3
        have hfz := HA.out.frozen 3
        go_wp2_with (first
          | (refine wpList_loadB rfl 48 (.tmp 2) rfl w.heap.size rfl 48 _ (HA.out.set_ 3 (.bool true)) _ Tryz.underlying48 infoD ?_)
          | (refine wpList_storeB rfl 48 (.tmp 4) (.tmp 107) rfl rfl (w.heap.size + 1) _ rfl rfl 48 _ (HB.out.far (by simp) _) infoD rfl (dArr_one { d with b3 := true }) ?_; intro w9 hB9 hx9))
        exact bodyPost_ret (v := .agg (dArr { d with b3 := true })) (results_cell_row rfl _ _ (w.heap.size + 1) 48 _ (0, 0) _ rfl hB9 Tryz.underlying48 rfl infoD) rfl ⟨congrArg (fun z => Ending.returned (.agg (dArr z))) Hk.out.symm, (HE.out.setCell (p := ⟨w.heap.size, 3, none⟩) (Nat.le_refl _) _).growB hx9 (by omega)⟩
      · have Hst := Lib.hid (at_step Hall.out hlt h61)
        have hne : ((x[k].toNat : Int) != 61) = true := by simp [h61]
        go_wp2_with fail
        go_round
        case rel => exact ⟨k + 1, by omega, by go_num, Hst.out⟩
        case measure => simp [intOf]; omega
    · have Hnm := Lib.hid (name_at hk Hall.out (.inl (by omega)))
      exact absurd (hth.out.symm.trans Hnm.out.2.1) (by simp [hlt])
set_option maxHeartbeats 1000000 in
set_option maxRecDepth 100000 in
theorem with_1_4 (d : D) (x L : ByteArray) (w : World) (hs : x.size ≤ 1048576) (hth : Hid (thE x = true)) (hok : Hid (okQ (argE x) = true)) (hL : Hid (lowS (eqName x) = L)) (h0 : (L.toList == [110, 111, 45, 115, 116, 111, 114, 101]) = false) (h1 : (L.toList == [110, 111, 45, 99, 97, 99, 104, 101]) = false) (h2 : (L.toList == [112, 114, 105, 118, 97, 116, 101]) = false) (h3 : (L.toList == [112, 117, 98, 108, 105, 99]) = false) (h4 : (L.toList == [109, 117, 115, 116, 45, 114, 101, 118, 97, 108, 105, 100, 97, 116, 101]) = true) :
    Calls Tryz.prog 57 #[.agg (dArr d), .string x] w fun e w' => e = .returned (.agg (dArr (stepD d x))) ∧ Ext w w' := by
  have Hk := Lib.hid (show stepD d x = stepK d 4 (numQ (argE x)) (numQ (argE x)) (numQ (argE x)) by unfold stepD; rw [hL.out, kind_4 h0 h1 h2 h3 h4, hth.out, timeK_yes 0 0 hok.out, timeK_yes 0 2147483647 hok.out, timeK_yes 2147483647 2147483647 hok.out])
  have hn0 : 0 ≤ numQ (argE x) := (numQ_range _).1
  have hA : Blk ((w.alloc (.cells (dArr d) 48)).alloc (.cells #[.bool false, .bool false, .bool false, .bool false, .bool false, .bool false, .int .i64 0, .int .i64 0, .int .i64 0, .int .i64 0, .int .i64 0, .int .i64 0] 48)) w.heap.size 48 (dArr d) := (Blk.new w _ _).alloc _
  have hB : Blk ((w.alloc (.cells (dArr d) 48)).alloc (.cells #[.bool false, .bool false, .bool false, .bool false, .bool false, .bool false, .int .i64 0, .int .i64 0, .int .i64 0, .int .i64 0, .int .i64 0, .int .i64 0] 48)) (w.heap.size + 1) 48 #[.bool false, .bool false, .bool false, .bool false, .bool false, .bool false, .int .i64 0, .int .i64 0, .int .i64 0, .int .i64 0, .int .i64 0, .int .i64 0] := by have := Blk.new (w.alloc (.cells (dArr d) 48)) 48 #[.bool false, .bool false, .bool false, .bool false, .bool false, .bool false, .int .i64 0, .int .i64 0, .int .i64 0, .int .i64 0, .int .i64 0, .int .i64 0]; rwa [World.size_alloc] at this
  have hE : Ext w ((w.alloc (.cells (dArr d) 48)).alloc (.cells #[.bool false, .bool false, .bool false, .bool false, .bool false, .bool false, .int .i64 0, .int .i64 0, .int .i64 0, .int .i64 0, .int .i64 0, .int .i64 0] 48)) := ((Ext.refl w).alloc _).alloc _
  have HA0 := Lib.hid hA; have HB0 := Lib.hid hB; have HE0 := Lib.hid hE; clear hA hB hE
  go_enter Tryz.func57, Tryz.ntmps57
  go_wp2_with fail
  generalize (w.alloc (.cells (dArr d) 48)).alloc (.cells #[.bool false, .bool false, .bool false, .bool false, .bool false, .bool false, .int .i64 0, .int .i64 0, .int .i64 0, .int .i64 0, .int .i64 0, .int .i64 0] 48) = W0 at *
  go_loop [5] (fun i => ∃ k : Nat, k ≤ x.size ∧ i = .int .i64 k ∧ ∀ j (hj : j < x.size), j < k → ¬ (x[j].toNat : Int) = 61) (fun i => x.size - (intOf i).toNat)
  case atStart => exact ⟨0, Nat.zero_le _, rfl, fun j _ h => absurd h (Nat.not_lt_zero _)⟩
  case round =>
    obtain ⟨k, hk, rfl, hall⟩ := hrel
    have Hall := Lib.hid hall; clear hall
    by_cases hlt : k < x.size
    · by_cases h61 : (x[k].toNat : Int) = 61
      · have Hnm := Lib.hid (name_at hk Hall.out (.inr ⟨hlt, h61⟩))
        have hne : ((x[k].toNat : Int) != 61) = false := by simp [h61]
        go_wp2_with fail
        refine (ref_Lower _ _ (by rw [ByteArray.size_extract]; omega)).mono ?_; rintro e w1 ⟨rfl, hb1⟩
        rw [← Hnm.out.1, hL.out]
        go_wp2_with fail
        refine (ref_number _ _ (by rw [ByteArray.size_extract]; omega)).mono ?_; rintro e w3 ⟨rfl, hb3⟩
        rw [← Hnm.out.2.2 hlt, hok.out]
        have HA := Lib.hid ((HA0.out.ext hb1).ext hb3)
        have HB := Lib.hid ((HB0.out.ext hb1).ext hb3)
        have HE := Lib.hid ((HE0.out.trans hb1).trans hb3)
        have hcl : w3.cell? ⟨w.heap.size, 4, none⟩ = some (.bool d.b4) := HA.out.cell 4
        have hfz := HA.out.frozen 4
        go_wp2_with (first
          | (refine wpList_loadB rfl 48 (.tmp 2) rfl w.heap.size rfl 48 _ (HA.out.set_ 4 (.bool true)) _ Tryz.underlying48 infoD ?_)
          | (refine wpList_storeB rfl 48 (.tmp 4) (.tmp 107) rfl rfl (w.heap.size + 1) _ rfl rfl 48 _ (HB.out.far (by simp) _) infoD rfl (dArr_one { d with b4 := true }) ?_; intro w9 hB9 hx9))
        exact bodyPost_ret (v := .agg (dArr { d with b4 := true })) (results_cell_row rfl _ _ (w.heap.size + 1) 48 _ (0, 0) _ rfl hB9 Tryz.underlying48 rfl infoD) rfl ⟨congrArg (fun z => Ending.returned (.agg (dArr z))) Hk.out.symm, (HE.out.setCell (p := ⟨w.heap.size, 4, none⟩) (Nat.le_refl _) _).growB hx9 (by omega)⟩
      · have Hst := Lib.hid (at_step Hall.out hlt h61)
        have hne : ((x[k].toNat : Int) != 61) = true := by simp [h61]
        go_wp2_with fail
        go_round
        case rel => exact ⟨k + 1, by omega, by go_num, Hst.out⟩
        case measure => simp [intOf]; omega
    · have Hnm := Lib.hid (name_at hk Hall.out (.inl (by omega)))
      exact absurd (hth.out.symm.trans Hnm.out.2.1) (by simp [hlt])
set_option maxHeartbeats 1000000 in
set_option maxRecDepth 100000 in
theorem with_1_5 (d : D) (x L : ByteArray) (w : World) (hs : x.size ≤ 1048576) (hth : Hid (thE x = true)) (hok : Hid (okQ (argE x) = true)) (hL : Hid (lowS (eqName x) = L)) (h0 : (L.toList == [110, 111, 45, 115, 116, 111, 114, 101]) = false) (h1 : (L.toList == [110, 111, 45, 99, 97, 99, 104, 101]) = false) (h2 : (L.toList == [112, 114, 105, 118, 97, 116, 101]) = false) (h3 : (L.toList == [112, 117, 98, 108, 105, 99]) = false) (h4 : (L.toList == [109, 117, 115, 116, 45, 114, 101, 118, 97, 108, 105, 100, 97, 116, 101]) = false) (h5 : (L.toList == [112, 114, 111, 120, 121, 45, 114, 101, 118, 97, 108, 105, 100, 97, 116, 101]) = true) :
    Calls Tryz.prog 57 #[.agg (dArr d), .string x] w fun e w' => e = .returned (.agg (dArr (stepD d x))) ∧ Ext w w' := by
  have Hk := Lib.hid (show stepD d x = stepK d 5 (numQ (argE x)) (numQ (argE x)) (numQ (argE x)) by unfold stepD; rw [hL.out, kind_5 h0 h1 h2 h3 h4 h5, hth.out, timeK_yes 0 0 hok.out, timeK_yes 0 2147483647 hok.out, timeK_yes 2147483647 2147483647 hok.out])
  have hn0 : 0 ≤ numQ (argE x) := (numQ_range _).1
  have hA : Blk ((w.alloc (.cells (dArr d) 48)).alloc (.cells #[.bool false, .bool false, .bool false, .bool false, .bool false, .bool false, .int .i64 0, .int .i64 0, .int .i64 0, .int .i64 0, .int .i64 0, .int .i64 0] 48)) w.heap.size 48 (dArr d) := (Blk.new w _ _).alloc _
  have hB : Blk ((w.alloc (.cells (dArr d) 48)).alloc (.cells #[.bool false, .bool false, .bool false, .bool false, .bool false, .bool false, .int .i64 0, .int .i64 0, .int .i64 0, .int .i64 0, .int .i64 0, .int .i64 0] 48)) (w.heap.size + 1) 48 #[.bool false, .bool false, .bool false, .bool false, .bool false, .bool false, .int .i64 0, .int .i64 0, .int .i64 0, .int .i64 0, .int .i64 0, .int .i64 0] := by have := Blk.new (w.alloc (.cells (dArr d) 48)) 48 #[.bool false, .bool false, .bool false, .bool false, .bool false, .bool false, .int .i64 0, .int .i64 0, .int .i64 0, .int .i64 0, .int .i64 0, .int .i64 0]; rwa [World.size_alloc] at this
  have hE : Ext w ((w.alloc (.cells (dArr d) 48)).alloc (.cells #[.bool false, .bool false, .bool false, .bool false, .bool false, .bool false, .int .i64 0, .int .i64 0, .int .i64 0, .int .i64 0, .int .i64 0, .int .i64 0] 48)) := ((Ext.refl w).alloc _).alloc _
  have HA0 := Lib.hid hA; have HB0 := Lib.hid hB; have HE0 := Lib.hid hE; clear hA hB hE
  go_enter Tryz.func57, Tryz.ntmps57
  go_wp2_with fail
  generalize (w.alloc (.cells (dArr d) 48)).alloc (.cells #[.bool false, .bool false, .bool false, .bool false, .bool false, .bool false, .int .i64 0, .int .i64 0, .int .i64 0, .int .i64 0, .int .i64 0, .int .i64 0] 48) = W0 at *
  go_loop [5] (fun i => ∃ k : Nat, k ≤ x.size ∧ i = .int .i64 k ∧ ∀ j (hj : j < x.size), j < k → ¬ (x[j].toNat : Int) = 61) (fun i => x.size - (intOf i).toNat)
  case atStart => exact ⟨0, Nat.zero_le _, rfl, fun j _ h => absurd h (Nat.not_lt_zero _)⟩
  case round =>
    obtain ⟨k, hk, rfl, hall⟩ := hrel
    have Hall := Lib.hid hall; clear hall
    by_cases hlt : k < x.size
    · by_cases h61 : (x[k].toNat : Int) = 61
      · have Hnm := Lib.hid (name_at hk Hall.out (.inr ⟨hlt, h61⟩))
        have hne : ((x[k].toNat : Int) != 61) = false := by simp [h61]
        go_wp2_with fail
        refine (ref_Lower _ _ (by rw [ByteArray.size_extract]; omega)).mono ?_; rintro e w1 ⟨rfl, hb1⟩
        rw [← Hnm.out.1, hL.out]
        go_wp2_with fail
        refine (ref_number _ _ (by rw [ByteArray.size_extract]; omega)).mono ?_; rintro e w3 ⟨rfl, hb3⟩
        rw [← Hnm.out.2.2 hlt, hok.out]
        have HA := Lib.hid ((HA0.out.ext hb1).ext hb3)
        have HB := Lib.hid ((HB0.out.ext hb1).ext hb3)
        have HE := Lib.hid ((HE0.out.trans hb1).trans hb3)
        have hcl : w3.cell? ⟨w.heap.size, 4, none⟩ = some (.bool d.b4) := HA.out.cell 4
        have hfz := HA.out.frozen 4
        go_wp2_with (first
          | (refine wpList_loadB rfl 48 (.tmp 2) rfl w.heap.size rfl 48 _ (HA.out.set_ 4 (.bool true)) _ Tryz.underlying48 infoD ?_)
          | (refine wpList_storeB rfl 48 (.tmp 4) (.tmp 107) rfl rfl (w.heap.size + 1) _ rfl rfl 48 _ (HB.out.far (by simp) _) infoD rfl (dArr_one { d with b4 := true }) ?_; intro w9 hB9 hx9))
        exact bodyPost_ret (v := .agg (dArr { d with b4 := true })) (results_cell_row rfl _ _ (w.heap.size + 1) 48 _ (0, 0) _ rfl hB9 Tryz.underlying48 rfl infoD) rfl ⟨congrArg (fun z => Ending.returned (.agg (dArr z))) Hk.out.symm, (HE.out.setCell (p := ⟨w.heap.size, 4, none⟩) (Nat.le_refl _) _).growB hx9 (by omega)⟩
      · have Hst := Lib.hid (at_step Hall.out hlt h61)
        have hne : ((x[k].toNat : Int) != 61) = true := by simp [h61]
        go_wp2_with fail
        go_round
        case rel => exact ⟨k + 1, by omega, by go_num, Hst.out⟩
        case measure => simp [intOf]; omega
    · have Hnm := Lib.hid (name_at hk Hall.out (.inl (by omega)))
      exact absurd (hth.out.symm.trans Hnm.out.2.1) (by simp [hlt])
set_option maxHeartbeats 1000000 in
set_option maxRecDepth 100000 in
theorem with_1_6 (d : D) (x L : ByteArray) (w : World) (hs : x.size ≤ 1048576) (hth : Hid (thE x = true)) (hok : Hid (okQ (argE x) = true)) (hL : Hid (lowS (eqName x) = L)) (h0 : (L.toList == [110, 111, 45, 115, 116, 111, 114, 101]) = false) (h1 : (L.toList == [110, 111, 45, 99, 97, 99, 104, 101]) = false) (h2 : (L.toList == [112, 114, 105, 118, 97, 116, 101]) = false) (h3 : (L.toList == [112, 117, 98, 108, 105, 99]) = false) (h4 : (L.toList == [109, 117, 115, 116, 45, 114, 101, 118, 97, 108, 105, 100, 97, 116, 101]) = false) (h5 : (L.toList == [112, 114, 111, 120, 121, 45, 114, 101, 118, 97, 108, 105, 100, 97, 116, 101]) = false) (h6 : (L.toList == [111, 110, 108, 121, 45, 105, 102, 45, 99, 97, 99, 104, 101, 100]) = true) :
    Calls Tryz.prog 57 #[.agg (dArr d), .string x] w fun e w' => e = .returned (.agg (dArr (stepD d x))) ∧ Ext w w' := by
  have Hk := Lib.hid (show stepD d x = stepK d 6 (numQ (argE x)) (numQ (argE x)) (numQ (argE x)) by unfold stepD; rw [hL.out, kind_6 h0 h1 h2 h3 h4 h5 h6, hth.out, timeK_yes 0 0 hok.out, timeK_yes 0 2147483647 hok.out, timeK_yes 2147483647 2147483647 hok.out])
  have hn0 : 0 ≤ numQ (argE x) := (numQ_range _).1
  have hA : Blk ((w.alloc (.cells (dArr d) 48)).alloc (.cells #[.bool false, .bool false, .bool false, .bool false, .bool false, .bool false, .int .i64 0, .int .i64 0, .int .i64 0, .int .i64 0, .int .i64 0, .int .i64 0] 48)) w.heap.size 48 (dArr d) := (Blk.new w _ _).alloc _
  have hB : Blk ((w.alloc (.cells (dArr d) 48)).alloc (.cells #[.bool false, .bool false, .bool false, .bool false, .bool false, .bool false, .int .i64 0, .int .i64 0, .int .i64 0, .int .i64 0, .int .i64 0, .int .i64 0] 48)) (w.heap.size + 1) 48 #[.bool false, .bool false, .bool false, .bool false, .bool false, .bool false, .int .i64 0, .int .i64 0, .int .i64 0, .int .i64 0, .int .i64 0, .int .i64 0] := by have := Blk.new (w.alloc (.cells (dArr d) 48)) 48 #[.bool false, .bool false, .bool false, .bool false, .bool false, .bool false, .int .i64 0, .int .i64 0, .int .i64 0, .int .i64 0, .int .i64 0, .int .i64 0]; rwa [World.size_alloc] at this
  have hE : Ext w ((w.alloc (.cells (dArr d) 48)).alloc (.cells #[.bool false, .bool false, .bool false, .bool false, .bool false, .bool false, .int .i64 0, .int .i64 0, .int .i64 0, .int .i64 0, .int .i64 0, .int .i64 0] 48)) := ((Ext.refl w).alloc _).alloc _
  have HA0 := Lib.hid hA; have HB0 := Lib.hid hB; have HE0 := Lib.hid hE; clear hA hB hE
  go_enter Tryz.func57, Tryz.ntmps57
  go_wp2_with fail
  generalize (w.alloc (.cells (dArr d) 48)).alloc (.cells #[.bool false, .bool false, .bool false, .bool false, .bool false, .bool false, .int .i64 0, .int .i64 0, .int .i64 0, .int .i64 0, .int .i64 0, .int .i64 0] 48) = W0 at *
  go_loop [5] (fun i => ∃ k : Nat, k ≤ x.size ∧ i = .int .i64 k ∧ ∀ j (hj : j < x.size), j < k → ¬ (x[j].toNat : Int) = 61) (fun i => x.size - (intOf i).toNat)
  case atStart => exact ⟨0, Nat.zero_le _, rfl, fun j _ h => absurd h (Nat.not_lt_zero _)⟩
  case round =>
    obtain ⟨k, hk, rfl, hall⟩ := hrel
    have Hall := Lib.hid hall; clear hall
    by_cases hlt : k < x.size
    · by_cases h61 : (x[k].toNat : Int) = 61
      · have Hnm := Lib.hid (name_at hk Hall.out (.inr ⟨hlt, h61⟩))
        have hne : ((x[k].toNat : Int) != 61) = false := by simp [h61]
        go_wp2_with fail
        refine (ref_Lower _ _ (by rw [ByteArray.size_extract]; omega)).mono ?_; rintro e w1 ⟨rfl, hb1⟩
        rw [← Hnm.out.1, hL.out]
        go_wp2_with fail
        refine (ref_number _ _ (by rw [ByteArray.size_extract]; omega)).mono ?_; rintro e w3 ⟨rfl, hb3⟩
        rw [← Hnm.out.2.2 hlt, hok.out]
        have HA := Lib.hid ((HA0.out.ext hb1).ext hb3)
        have HB := Lib.hid ((HB0.out.ext hb1).ext hb3)
        have HE := Lib.hid ((HE0.out.trans hb1).trans hb3)
        have hcl : w3.cell? ⟨w.heap.size, 5, none⟩ = some (.bool d.b5) := HA.out.cell 5
        have hfz := HA.out.frozen 5
        go_wp2_with (first
          | (refine wpList_loadB rfl 48 (.tmp 2) rfl w.heap.size rfl 48 _ (HA.out.set_ 5 (.bool true)) _ Tryz.underlying48 infoD ?_)
          | (refine wpList_storeB rfl 48 (.tmp 4) (.tmp 107) rfl rfl (w.heap.size + 1) _ rfl rfl 48 _ (HB.out.far (by simp) _) infoD rfl (dArr_one { d with b5 := true }) ?_; intro w9 hB9 hx9))
        exact bodyPost_ret (v := .agg (dArr { d with b5 := true })) (results_cell_row rfl _ _ (w.heap.size + 1) 48 _ (0, 0) _ rfl hB9 Tryz.underlying48 rfl infoD) rfl ⟨congrArg (fun z => Ending.returned (.agg (dArr z))) Hk.out.symm, (HE.out.setCell (p := ⟨w.heap.size, 5, none⟩) (Nat.le_refl _) _).growB hx9 (by omega)⟩
      · have Hst := Lib.hid (at_step Hall.out hlt h61)
        have hne : ((x[k].toNat : Int) != 61) = true := by simp [h61]
        go_wp2_with fail
        go_round
        case rel => exact ⟨k + 1, by omega, by go_num, Hst.out⟩
        case measure => simp [intOf]; omega
    · have Hnm := Lib.hid (name_at hk Hall.out (.inl (by omega)))
      exact absurd (hth.out.symm.trans Hnm.out.2.1) (by simp [hlt])
set_option maxHeartbeats 1000000 in
set_option maxRecDepth 100000 in
theorem with_1_7 (d : D) (x L : ByteArray) (w : World) (hs : x.size ≤ 1048576) (hth : Hid (thE x = true)) (hok : Hid (okQ (argE x) = true)) (hL : Hid (lowS (eqName x) = L)) (h0 : (L.toList == [110, 111, 45, 115, 116, 111, 114, 101]) = false) (h1 : (L.toList == [110, 111, 45, 99, 97, 99, 104, 101]) = false) (h2 : (L.toList == [112, 114, 105, 118, 97, 116, 101]) = false) (h3 : (L.toList == [112, 117, 98, 108, 105, 99]) = false) (h4 : (L.toList == [109, 117, 115, 116, 45, 114, 101, 118, 97, 108, 105, 100, 97, 116, 101]) = false) (h5 : (L.toList == [112, 114, 111, 120, 121, 45, 114, 101, 118, 97, 108, 105, 100, 97, 116, 101]) = false) (h6 : (L.toList == [111, 110, 108, 121, 45, 105, 102, 45, 99, 97, 99, 104, 101, 100]) = false) (h7 : (L.toList == [109, 97, 120, 45, 97, 103, 101]) = true) :
    Calls Tryz.prog 57 #[.agg (dArr d), .string x] w fun e w' => e = .returned (.agg (dArr (stepD d x))) ∧ Ext w w' := by
  have Hk := Lib.hid (show stepD d x = stepK d 7 (numQ (argE x)) (numQ (argE x)) (numQ (argE x)) by unfold stepD; rw [hL.out, kind_7 h0 h1 h2 h3 h4 h5 h6 h7, hth.out, timeK_yes 0 0 hok.out, timeK_yes 0 2147483647 hok.out, timeK_yes 2147483647 2147483647 hok.out])
  have hn0 : 0 ≤ numQ (argE x) := (numQ_range _).1
  have hA : Blk ((w.alloc (.cells (dArr d) 48)).alloc (.cells #[.bool false, .bool false, .bool false, .bool false, .bool false, .bool false, .int .i64 0, .int .i64 0, .int .i64 0, .int .i64 0, .int .i64 0, .int .i64 0] 48)) w.heap.size 48 (dArr d) := (Blk.new w _ _).alloc _
  have hB : Blk ((w.alloc (.cells (dArr d) 48)).alloc (.cells #[.bool false, .bool false, .bool false, .bool false, .bool false, .bool false, .int .i64 0, .int .i64 0, .int .i64 0, .int .i64 0, .int .i64 0, .int .i64 0] 48)) (w.heap.size + 1) 48 #[.bool false, .bool false, .bool false, .bool false, .bool false, .bool false, .int .i64 0, .int .i64 0, .int .i64 0, .int .i64 0, .int .i64 0, .int .i64 0] := by have := Blk.new (w.alloc (.cells (dArr d) 48)) 48 #[.bool false, .bool false, .bool false, .bool false, .bool false, .bool false, .int .i64 0, .int .i64 0, .int .i64 0, .int .i64 0, .int .i64 0, .int .i64 0]; rwa [World.size_alloc] at this
  have hE : Ext w ((w.alloc (.cells (dArr d) 48)).alloc (.cells #[.bool false, .bool false, .bool false, .bool false, .bool false, .bool false, .int .i64 0, .int .i64 0, .int .i64 0, .int .i64 0, .int .i64 0, .int .i64 0] 48)) := ((Ext.refl w).alloc _).alloc _
  have HA0 := Lib.hid hA; have HB0 := Lib.hid hB; have HE0 := Lib.hid hE; clear hA hB hE
  go_enter Tryz.func57, Tryz.ntmps57
  go_wp2_with fail
  generalize (w.alloc (.cells (dArr d) 48)).alloc (.cells #[.bool false, .bool false, .bool false, .bool false, .bool false, .bool false, .int .i64 0, .int .i64 0, .int .i64 0, .int .i64 0, .int .i64 0, .int .i64 0] 48) = W0 at *
  go_loop [5] (fun i => ∃ k : Nat, k ≤ x.size ∧ i = .int .i64 k ∧ ∀ j (hj : j < x.size), j < k → ¬ (x[j].toNat : Int) = 61) (fun i => x.size - (intOf i).toNat)
  case atStart => exact ⟨0, Nat.zero_le _, rfl, fun j _ h => absurd h (Nat.not_lt_zero _)⟩
  case round =>
    obtain ⟨k, hk, rfl, hall⟩ := hrel
    have Hall := Lib.hid hall; clear hall
    by_cases hlt : k < x.size
    · by_cases h61 : (x[k].toNat : Int) = 61
      · have Hnm := Lib.hid (name_at hk Hall.out (.inr ⟨hlt, h61⟩))
        have hne : ((x[k].toNat : Int) != 61) = false := by simp [h61]
        go_wp2_with fail
        refine (ref_Lower _ _ (by rw [ByteArray.size_extract]; omega)).mono ?_; rintro e w1 ⟨rfl, hb1⟩
        rw [← Hnm.out.1, hL.out]
        go_wp2_with fail
        refine (ref_number _ _ (by rw [ByteArray.size_extract]; omega)).mono ?_; rintro e w3 ⟨rfl, hb3⟩
        rw [← Hnm.out.2.2 hlt, hok.out]
        have HA := Lib.hid ((HA0.out.ext hb1).ext hb3)
        have HB := Lib.hid ((HB0.out.ext hb1).ext hb3)
        have HE := Lib.hid ((HE0.out.trans hb1).trans hb3)
        have hcl : w3.cell? ⟨w.heap.size, 6, none⟩ = some (.int .i64 d.n0) := HA.out.cell 6
        go_wp2_with fail
        refine (ref_lst d.n0 (numQ (argE x)) _ hn0).mono ?_; rintro e w4 ⟨rfl, hb4⟩
        have hA4 := HA.out.ext hb4
        have hcl4 : w4.cell? ⟨w.heap.size, 6, none⟩ = some (.int .i64 d.n0) := hA4.cell 6
        have hfz4 := hA4.frozen 6
        have HA4 := Lib.hid hA4; clear hA4
        go_wp2_with (first
          | (refine wpList_loadB rfl 48 (.tmp 2) rfl w.heap.size rfl 48 _ (HA4.out.set_ 6 (.int .i64 (lst d.n0 (numQ (argE x))))) _ Tryz.underlying48 infoD ?_)
          | (refine wpList_storeB rfl 48 (.tmp 4) (.tmp 107) rfl rfl (w.heap.size + 1) _ rfl rfl 48 _ ((HB.out.ext hb4).far (by simp) _) infoD rfl (dArr_one { d with n0 := lst d.n0 (numQ (argE x)) }) ?_; intro w9 hB9 hx9))
        exact bodyPost_ret (v := .agg (dArr { d with n0 := lst d.n0 (numQ (argE x)) })) (results_cell_row rfl _ _ (w.heap.size + 1) 48 _ (0, 0) _ rfl hB9 Tryz.underlying48 rfl infoD) rfl ⟨congrArg (fun z => Ending.returned (.agg (dArr z))) Hk.out.symm, ((HE.out.trans hb4).setCell (p := ⟨w.heap.size, 6, none⟩) (Nat.le_refl _) _).growB hx9 (by omega)⟩
      · have Hst := Lib.hid (at_step Hall.out hlt h61)
        have hne : ((x[k].toNat : Int) != 61) = true := by simp [h61]
        go_wp2_with fail
        go_round
        case rel => exact ⟨k + 1, by omega, by go_num, Hst.out⟩
        case measure => simp [intOf]; omega
    · have Hnm := Lib.hid (name_at hk Hall.out (.inl (by omega)))
      exact absurd (hth.out.symm.trans Hnm.out.2.1) (by simp [hlt])
set_option maxHeartbeats 1000000 in
set_option maxRecDepth 100000 in
theorem with_1_8 (d : D) (x L : ByteArray) (w : World) (hs : x.size ≤ 1048576) (hth : Hid (thE x = true)) (hok : Hid (okQ (argE x) = true)) (hL : Hid (lowS (eqName x) = L)) (h0 : (L.toList == [110, 111, 45, 115, 116, 111, 114, 101]) = false) (h1 : (L.toList == [110, 111, 45, 99, 97, 99, 104, 101]) = false) (h2 : (L.toList == [112, 114, 105, 118, 97, 116, 101]) = false) (h3 : (L.toList == [112, 117, 98, 108, 105, 99]) = false) (h4 : (L.toList == [109, 117, 115, 116, 45, 114, 101, 118, 97, 108, 105, 100, 97, 116, 101]) = false) (h5 : (L.toList == [112, 114, 111, 120, 121, 45, 114, 101, 118, 97, 108, 105, 100, 97, 116, 101]) = false) (h6 : (L.toList == [111, 110, 108, 121, 45, 105, 102, 45, 99, 97, 99, 104, 101, 100]) = false) (h7 : (L.toList == [109, 97, 120, 45, 97, 103, 101]) = false) (h8 : (L.toList == [115, 45, 109, 97, 120, 97, 103, 101]) = true) :
    Calls Tryz.prog 57 #[.agg (dArr d), .string x] w fun e w' => e = .returned (.agg (dArr (stepD d x))) ∧ Ext w w' := by
  have Hk := Lib.hid (show stepD d x = stepK d 8 (numQ (argE x)) (numQ (argE x)) (numQ (argE x)) by unfold stepD; rw [hL.out, kind_8 h0 h1 h2 h3 h4 h5 h6 h7 h8, hth.out, timeK_yes 0 0 hok.out, timeK_yes 0 2147483647 hok.out, timeK_yes 2147483647 2147483647 hok.out])
  have hn0 : 0 ≤ numQ (argE x) := (numQ_range _).1
  have hA : Blk ((w.alloc (.cells (dArr d) 48)).alloc (.cells #[.bool false, .bool false, .bool false, .bool false, .bool false, .bool false, .int .i64 0, .int .i64 0, .int .i64 0, .int .i64 0, .int .i64 0, .int .i64 0] 48)) w.heap.size 48 (dArr d) := (Blk.new w _ _).alloc _
  have hB : Blk ((w.alloc (.cells (dArr d) 48)).alloc (.cells #[.bool false, .bool false, .bool false, .bool false, .bool false, .bool false, .int .i64 0, .int .i64 0, .int .i64 0, .int .i64 0, .int .i64 0, .int .i64 0] 48)) (w.heap.size + 1) 48 #[.bool false, .bool false, .bool false, .bool false, .bool false, .bool false, .int .i64 0, .int .i64 0, .int .i64 0, .int .i64 0, .int .i64 0, .int .i64 0] := by have := Blk.new (w.alloc (.cells (dArr d) 48)) 48 #[.bool false, .bool false, .bool false, .bool false, .bool false, .bool false, .int .i64 0, .int .i64 0, .int .i64 0, .int .i64 0, .int .i64 0, .int .i64 0]; rwa [World.size_alloc] at this
  have hE : Ext w ((w.alloc (.cells (dArr d) 48)).alloc (.cells #[.bool false, .bool false, .bool false, .bool false, .bool false, .bool false, .int .i64 0, .int .i64 0, .int .i64 0, .int .i64 0, .int .i64 0, .int .i64 0] 48)) := ((Ext.refl w).alloc _).alloc _
  have HA0 := Lib.hid hA; have HB0 := Lib.hid hB; have HE0 := Lib.hid hE; clear hA hB hE
  go_enter Tryz.func57, Tryz.ntmps57
  go_wp2_with fail
  generalize (w.alloc (.cells (dArr d) 48)).alloc (.cells #[.bool false, .bool false, .bool false, .bool false, .bool false, .bool false, .int .i64 0, .int .i64 0, .int .i64 0, .int .i64 0, .int .i64 0, .int .i64 0] 48) = W0 at *
  go_loop [5] (fun i => ∃ k : Nat, k ≤ x.size ∧ i = .int .i64 k ∧ ∀ j (hj : j < x.size), j < k → ¬ (x[j].toNat : Int) = 61) (fun i => x.size - (intOf i).toNat)
  case atStart => exact ⟨0, Nat.zero_le _, rfl, fun j _ h => absurd h (Nat.not_lt_zero _)⟩
  case round =>
    obtain ⟨k, hk, rfl, hall⟩ := hrel
    have Hall := Lib.hid hall; clear hall
    by_cases hlt : k < x.size
    · by_cases h61 : (x[k].toNat : Int) = 61
      · have Hnm := Lib.hid (name_at hk Hall.out (.inr ⟨hlt, h61⟩))
        have hne : ((x[k].toNat : Int) != 61) = false := by simp [h61]
        go_wp2_with fail
        refine (ref_Lower _ _ (by rw [ByteArray.size_extract]; omega)).mono ?_; rintro e w1 ⟨rfl, hb1⟩
        rw [← Hnm.out.1, hL.out]
        go_wp2_with fail
        refine (ref_number _ _ (by rw [ByteArray.size_extract]; omega)).mono ?_; rintro e w3 ⟨rfl, hb3⟩
        rw [← Hnm.out.2.2 hlt, hok.out]
        have HA := Lib.hid ((HA0.out.ext hb1).ext hb3)
        have HB := Lib.hid ((HB0.out.ext hb1).ext hb3)
        have HE := Lib.hid ((HE0.out.trans hb1).trans hb3)
        have hcl : w3.cell? ⟨w.heap.size, 7, none⟩ = some (.int .i64 d.n1) := HA.out.cell 7
        go_wp2_with fail
        refine (ref_lst d.n1 (numQ (argE x)) _ hn0).mono ?_; rintro e w4 ⟨rfl, hb4⟩
        have hA4 := HA.out.ext hb4
        have hcl4 : w4.cell? ⟨w.heap.size, 7, none⟩ = some (.int .i64 d.n1) := hA4.cell 7
        have hfz4 := hA4.frozen 7
        have HA4 := Lib.hid hA4; clear hA4
        go_wp2_with (first
          | (refine wpList_loadB rfl 48 (.tmp 2) rfl w.heap.size rfl 48 _ (HA4.out.set_ 7 (.int .i64 (lst d.n1 (numQ (argE x))))) _ Tryz.underlying48 infoD ?_)
          | (refine wpList_storeB rfl 48 (.tmp 4) (.tmp 107) rfl rfl (w.heap.size + 1) _ rfl rfl 48 _ ((HB.out.ext hb4).far (by simp) _) infoD rfl (dArr_one { d with n1 := lst d.n1 (numQ (argE x)) }) ?_; intro w9 hB9 hx9))
        exact bodyPost_ret (v := .agg (dArr { d with n1 := lst d.n1 (numQ (argE x)) })) (results_cell_row rfl _ _ (w.heap.size + 1) 48 _ (0, 0) _ rfl hB9 Tryz.underlying48 rfl infoD) rfl ⟨congrArg (fun z => Ending.returned (.agg (dArr z))) Hk.out.symm, ((HE.out.trans hb4).setCell (p := ⟨w.heap.size, 7, none⟩) (Nat.le_refl _) _).growB hx9 (by omega)⟩
      · have Hst := Lib.hid (at_step Hall.out hlt h61)
        have hne : ((x[k].toNat : Int) != 61) = true := by simp [h61]
        go_wp2_with fail
        go_round
        case rel => exact ⟨k + 1, by omega, by go_num, Hst.out⟩
        case measure => simp [intOf]; omega
    · have Hnm := Lib.hid (name_at hk Hall.out (.inl (by omega)))
      exact absurd (hth.out.symm.trans Hnm.out.2.1) (by simp [hlt])
set_option maxHeartbeats 1000000 in
set_option maxRecDepth 100000 in
theorem with_1_9 (d : D) (x L : ByteArray) (w : World) (hs : x.size ≤ 1048576) (hth : Hid (thE x = true)) (hok : Hid (okQ (argE x) = true)) (hL : Hid (lowS (eqName x) = L)) (h0 : (L.toList == [110, 111, 45, 115, 116, 111, 114, 101]) = false) (h1 : (L.toList == [110, 111, 45, 99, 97, 99, 104, 101]) = false) (h2 : (L.toList == [112, 114, 105, 118, 97, 116, 101]) = false) (h3 : (L.toList == [112, 117, 98, 108, 105, 99]) = false) (h4 : (L.toList == [109, 117, 115, 116, 45, 114, 101, 118, 97, 108, 105, 100, 97, 116, 101]) = false) (h5 : (L.toList == [112, 114, 111, 120, 121, 45, 114, 101, 118, 97, 108, 105, 100, 97, 116, 101]) = false) (h6 : (L.toList == [111, 110, 108, 121, 45, 105, 102, 45, 99, 97, 99, 104, 101, 100]) = false) (h7 : (L.toList == [109, 97, 120, 45, 97, 103, 101]) = false) (h8 : (L.toList == [115, 45, 109, 97, 120, 97, 103, 101]) = false) (h9 : (L.toList == [115, 116, 97, 108, 101, 45, 119, 104, 105, 108, 101, 45, 114, 101, 118, 97, 108, 105, 100, 97, 116, 101]) = true) :
    Calls Tryz.prog 57 #[.agg (dArr d), .string x] w fun e w' => e = .returned (.agg (dArr (stepD d x))) ∧ Ext w w' := by
  have Hk := Lib.hid (show stepD d x = stepK d 9 (numQ (argE x)) (numQ (argE x)) (numQ (argE x)) by unfold stepD; rw [hL.out, kind_9 h0 h1 h2 h3 h4 h5 h6 h7 h8 h9, hth.out, timeK_yes 0 0 hok.out, timeK_yes 0 2147483647 hok.out, timeK_yes 2147483647 2147483647 hok.out])
  have hn0 : 0 ≤ numQ (argE x) := (numQ_range _).1
  have hA : Blk ((w.alloc (.cells (dArr d) 48)).alloc (.cells #[.bool false, .bool false, .bool false, .bool false, .bool false, .bool false, .int .i64 0, .int .i64 0, .int .i64 0, .int .i64 0, .int .i64 0, .int .i64 0] 48)) w.heap.size 48 (dArr d) := (Blk.new w _ _).alloc _
  have hB : Blk ((w.alloc (.cells (dArr d) 48)).alloc (.cells #[.bool false, .bool false, .bool false, .bool false, .bool false, .bool false, .int .i64 0, .int .i64 0, .int .i64 0, .int .i64 0, .int .i64 0, .int .i64 0] 48)) (w.heap.size + 1) 48 #[.bool false, .bool false, .bool false, .bool false, .bool false, .bool false, .int .i64 0, .int .i64 0, .int .i64 0, .int .i64 0, .int .i64 0, .int .i64 0] := by have := Blk.new (w.alloc (.cells (dArr d) 48)) 48 #[.bool false, .bool false, .bool false, .bool false, .bool false, .bool false, .int .i64 0, .int .i64 0, .int .i64 0, .int .i64 0, .int .i64 0, .int .i64 0]; rwa [World.size_alloc] at this
  have hE : Ext w ((w.alloc (.cells (dArr d) 48)).alloc (.cells #[.bool false, .bool false, .bool false, .bool false, .bool false, .bool false, .int .i64 0, .int .i64 0, .int .i64 0, .int .i64 0, .int .i64 0, .int .i64 0] 48)) := ((Ext.refl w).alloc _).alloc _
  have HA0 := Lib.hid hA; have HB0 := Lib.hid hB; have HE0 := Lib.hid hE; clear hA hB hE
  go_enter Tryz.func57, Tryz.ntmps57
  go_wp2_with fail
  generalize (w.alloc (.cells (dArr d) 48)).alloc (.cells #[.bool false, .bool false, .bool false, .bool false, .bool false, .bool false, .int .i64 0, .int .i64 0, .int .i64 0, .int .i64 0, .int .i64 0, .int .i64 0] 48) = W0 at *
  go_loop [5] (fun i => ∃ k : Nat, k ≤ x.size ∧ i = .int .i64 k ∧ ∀ j (hj : j < x.size), j < k → ¬ (x[j].toNat : Int) = 61) (fun i => x.size - (intOf i).toNat)
  case atStart => exact ⟨0, Nat.zero_le _, rfl, fun j _ h => absurd h (Nat.not_lt_zero _)⟩
  case round =>
    obtain ⟨k, hk, rfl, hall⟩ := hrel
    have Hall := Lib.hid hall; clear hall
    by_cases hlt : k < x.size
    · by_cases h61 : (x[k].toNat : Int) = 61
      · have Hnm := Lib.hid (name_at hk Hall.out (.inr ⟨hlt, h61⟩))
        have hne : ((x[k].toNat : Int) != 61) = false := by simp [h61]
        go_wp2_with fail
        refine (ref_Lower _ _ (by rw [ByteArray.size_extract]; omega)).mono ?_; rintro e w1 ⟨rfl, hb1⟩
        rw [← Hnm.out.1, hL.out]
        go_wp2_with fail
        refine (ref_number _ _ (by rw [ByteArray.size_extract]; omega)).mono ?_; rintro e w3 ⟨rfl, hb3⟩
        rw [← Hnm.out.2.2 hlt, hok.out]
        have HA := Lib.hid ((HA0.out.ext hb1).ext hb3)
        have HB := Lib.hid ((HB0.out.ext hb1).ext hb3)
        have HE := Lib.hid ((HE0.out.trans hb1).trans hb3)
        have hcl : w3.cell? ⟨w.heap.size, 8, none⟩ = some (.int .i64 d.n2) := HA.out.cell 8
        go_wp2_with fail
        refine (ref_lst d.n2 (numQ (argE x)) _ hn0).mono ?_; rintro e w4 ⟨rfl, hb4⟩
        have hA4 := HA.out.ext hb4
        have hcl4 : w4.cell? ⟨w.heap.size, 8, none⟩ = some (.int .i64 d.n2) := hA4.cell 8
        have hfz4 := hA4.frozen 8
        have HA4 := Lib.hid hA4; clear hA4
        go_wp2_with (first
          | (refine wpList_loadB rfl 48 (.tmp 2) rfl w.heap.size rfl 48 _ (HA4.out.set_ 8 (.int .i64 (lst d.n2 (numQ (argE x))))) _ Tryz.underlying48 infoD ?_)
          | (refine wpList_storeB rfl 48 (.tmp 4) (.tmp 107) rfl rfl (w.heap.size + 1) _ rfl rfl 48 _ ((HB.out.ext hb4).far (by simp) _) infoD rfl (dArr_one { d with n2 := lst d.n2 (numQ (argE x)) }) ?_; intro w9 hB9 hx9))
        exact bodyPost_ret (v := .agg (dArr { d with n2 := lst d.n2 (numQ (argE x)) })) (results_cell_row rfl _ _ (w.heap.size + 1) 48 _ (0, 0) _ rfl hB9 Tryz.underlying48 rfl infoD) rfl ⟨congrArg (fun z => Ending.returned (.agg (dArr z))) Hk.out.symm, ((HE.out.trans hb4).setCell (p := ⟨w.heap.size, 8, none⟩) (Nat.le_refl _) _).growB hx9 (by omega)⟩
      · have Hst := Lib.hid (at_step Hall.out hlt h61)
        have hne : ((x[k].toNat : Int) != 61) = true := by simp [h61]
        go_wp2_with fail
        go_round
        case rel => exact ⟨k + 1, by omega, by go_num, Hst.out⟩
        case measure => simp [intOf]; omega
    · have Hnm := Lib.hid (name_at hk Hall.out (.inl (by omega)))
      exact absurd (hth.out.symm.trans Hnm.out.2.1) (by simp [hlt])
set_option maxHeartbeats 1000000 in
set_option maxRecDepth 100000 in
theorem with_1_10 (d : D) (x L : ByteArray) (w : World) (hs : x.size ≤ 1048576) (hth : Hid (thE x = true)) (hok : Hid (okQ (argE x) = true)) (hL : Hid (lowS (eqName x) = L)) (h0 : (L.toList == [110, 111, 45, 115, 116, 111, 114, 101]) = false) (h1 : (L.toList == [110, 111, 45, 99, 97, 99, 104, 101]) = false) (h2 : (L.toList == [112, 114, 105, 118, 97, 116, 101]) = false) (h3 : (L.toList == [112, 117, 98, 108, 105, 99]) = false) (h4 : (L.toList == [109, 117, 115, 116, 45, 114, 101, 118, 97, 108, 105, 100, 97, 116, 101]) = false) (h5 : (L.toList == [112, 114, 111, 120, 121, 45, 114, 101, 118, 97, 108, 105, 100, 97, 116, 101]) = false) (h6 : (L.toList == [111, 110, 108, 121, 45, 105, 102, 45, 99, 97, 99, 104, 101, 100]) = false) (h7 : (L.toList == [109, 97, 120, 45, 97, 103, 101]) = false) (h8 : (L.toList == [115, 45, 109, 97, 120, 97, 103, 101]) = false) (h9 : (L.toList == [115, 116, 97, 108, 101, 45, 119, 104, 105, 108, 101, 45, 114, 101, 118, 97, 108, 105, 100, 97, 116, 101]) = false) (h10 : (L.toList == [115, 116, 97, 108, 101, 45, 105, 102, 45, 101, 114, 114, 111, 114]) = true) :
    Calls Tryz.prog 57 #[.agg (dArr d), .string x] w fun e w' => e = .returned (.agg (dArr (stepD d x))) ∧ Ext w w' := by
  have Hk := Lib.hid (show stepD d x = stepK d 10 (numQ (argE x)) (numQ (argE x)) (numQ (argE x)) by unfold stepD; rw [hL.out, kind_10 h0 h1 h2 h3 h4 h5 h6 h7 h8 h9 h10, hth.out, timeK_yes 0 0 hok.out, timeK_yes 0 2147483647 hok.out, timeK_yes 2147483647 2147483647 hok.out])
  have hn0 : 0 ≤ numQ (argE x) := (numQ_range _).1
  have hA : Blk ((w.alloc (.cells (dArr d) 48)).alloc (.cells #[.bool false, .bool false, .bool false, .bool false, .bool false, .bool false, .int .i64 0, .int .i64 0, .int .i64 0, .int .i64 0, .int .i64 0, .int .i64 0] 48)) w.heap.size 48 (dArr d) := (Blk.new w _ _).alloc _
  have hB : Blk ((w.alloc (.cells (dArr d) 48)).alloc (.cells #[.bool false, .bool false, .bool false, .bool false, .bool false, .bool false, .int .i64 0, .int .i64 0, .int .i64 0, .int .i64 0, .int .i64 0, .int .i64 0] 48)) (w.heap.size + 1) 48 #[.bool false, .bool false, .bool false, .bool false, .bool false, .bool false, .int .i64 0, .int .i64 0, .int .i64 0, .int .i64 0, .int .i64 0, .int .i64 0] := by have := Blk.new (w.alloc (.cells (dArr d) 48)) 48 #[.bool false, .bool false, .bool false, .bool false, .bool false, .bool false, .int .i64 0, .int .i64 0, .int .i64 0, .int .i64 0, .int .i64 0, .int .i64 0]; rwa [World.size_alloc] at this
  have hE : Ext w ((w.alloc (.cells (dArr d) 48)).alloc (.cells #[.bool false, .bool false, .bool false, .bool false, .bool false, .bool false, .int .i64 0, .int .i64 0, .int .i64 0, .int .i64 0, .int .i64 0, .int .i64 0] 48)) := ((Ext.refl w).alloc _).alloc _
  have HA0 := Lib.hid hA; have HB0 := Lib.hid hB; have HE0 := Lib.hid hE; clear hA hB hE
  go_enter Tryz.func57, Tryz.ntmps57
  go_wp2_with fail
  generalize (w.alloc (.cells (dArr d) 48)).alloc (.cells #[.bool false, .bool false, .bool false, .bool false, .bool false, .bool false, .int .i64 0, .int .i64 0, .int .i64 0, .int .i64 0, .int .i64 0, .int .i64 0] 48) = W0 at *
  go_loop [5] (fun i => ∃ k : Nat, k ≤ x.size ∧ i = .int .i64 k ∧ ∀ j (hj : j < x.size), j < k → ¬ (x[j].toNat : Int) = 61) (fun i => x.size - (intOf i).toNat)
  case atStart => exact ⟨0, Nat.zero_le _, rfl, fun j _ h => absurd h (Nat.not_lt_zero _)⟩
  case round =>
    obtain ⟨k, hk, rfl, hall⟩ := hrel
    have Hall := Lib.hid hall; clear hall
    by_cases hlt : k < x.size
    · by_cases h61 : (x[k].toNat : Int) = 61
      · have Hnm := Lib.hid (name_at hk Hall.out (.inr ⟨hlt, h61⟩))
        have hne : ((x[k].toNat : Int) != 61) = false := by simp [h61]
        go_wp2_with fail
        refine (ref_Lower _ _ (by rw [ByteArray.size_extract]; omega)).mono ?_; rintro e w1 ⟨rfl, hb1⟩
        rw [← Hnm.out.1, hL.out]
        go_wp2_with fail
        refine (ref_number _ _ (by rw [ByteArray.size_extract]; omega)).mono ?_; rintro e w3 ⟨rfl, hb3⟩
        rw [← Hnm.out.2.2 hlt, hok.out]
        have HA := Lib.hid ((HA0.out.ext hb1).ext hb3)
        have HB := Lib.hid ((HB0.out.ext hb1).ext hb3)
        have HE := Lib.hid ((HE0.out.trans hb1).trans hb3)
        have hcl : w3.cell? ⟨w.heap.size, 9, none⟩ = some (.int .i64 d.n3) := HA.out.cell 9
        go_wp2_with fail
        refine (ref_lst d.n3 (numQ (argE x)) _ hn0).mono ?_; rintro e w4 ⟨rfl, hb4⟩
        have hA4 := HA.out.ext hb4
        have hcl4 : w4.cell? ⟨w.heap.size, 9, none⟩ = some (.int .i64 d.n3) := hA4.cell 9
        have hfz4 := hA4.frozen 9
        have HA4 := Lib.hid hA4; clear hA4
        go_wp2_with (first
          | (refine wpList_loadB rfl 48 (.tmp 2) rfl w.heap.size rfl 48 _ (HA4.out.set_ 9 (.int .i64 (lst d.n3 (numQ (argE x))))) _ Tryz.underlying48 infoD ?_)
          | (refine wpList_storeB rfl 48 (.tmp 4) (.tmp 107) rfl rfl (w.heap.size + 1) _ rfl rfl 48 _ ((HB.out.ext hb4).far (by simp) _) infoD rfl (dArr_one { d with n3 := lst d.n3 (numQ (argE x)) }) ?_; intro w9 hB9 hx9))
        exact bodyPost_ret (v := .agg (dArr { d with n3 := lst d.n3 (numQ (argE x)) })) (results_cell_row rfl _ _ (w.heap.size + 1) 48 _ (0, 0) _ rfl hB9 Tryz.underlying48 rfl infoD) rfl ⟨congrArg (fun z => Ending.returned (.agg (dArr z))) Hk.out.symm, ((HE.out.trans hb4).setCell (p := ⟨w.heap.size, 9, none⟩) (Nat.le_refl _) _).growB hx9 (by omega)⟩
      · have Hst := Lib.hid (at_step Hall.out hlt h61)
        have hne : ((x[k].toNat : Int) != 61) = true := by simp [h61]
        go_wp2_with fail
        go_round
        case rel => exact ⟨k + 1, by omega, by go_num, Hst.out⟩
        case measure => simp [intOf]; omega
    · have Hnm := Lib.hid (name_at hk Hall.out (.inl (by omega)))
      exact absurd (hth.out.symm.trans Hnm.out.2.1) (by simp [hlt])
set_option maxHeartbeats 1000000 in
set_option maxRecDepth 100000 in
theorem with_1_11 (d : D) (x L : ByteArray) (w : World) (hs : x.size ≤ 1048576) (hth : Hid (thE x = true)) (hok : Hid (okQ (argE x) = true)) (hL : Hid (lowS (eqName x) = L)) (h0 : (L.toList == [110, 111, 45, 115, 116, 111, 114, 101]) = false) (h1 : (L.toList == [110, 111, 45, 99, 97, 99, 104, 101]) = false) (h2 : (L.toList == [112, 114, 105, 118, 97, 116, 101]) = false) (h3 : (L.toList == [112, 117, 98, 108, 105, 99]) = false) (h4 : (L.toList == [109, 117, 115, 116, 45, 114, 101, 118, 97, 108, 105, 100, 97, 116, 101]) = false) (h5 : (L.toList == [112, 114, 111, 120, 121, 45, 114, 101, 118, 97, 108, 105, 100, 97, 116, 101]) = false) (h6 : (L.toList == [111, 110, 108, 121, 45, 105, 102, 45, 99, 97, 99, 104, 101, 100]) = false) (h7 : (L.toList == [109, 97, 120, 45, 97, 103, 101]) = false) (h8 : (L.toList == [115, 45, 109, 97, 120, 97, 103, 101]) = false) (h9 : (L.toList == [115, 116, 97, 108, 101, 45, 119, 104, 105, 108, 101, 45, 114, 101, 118, 97, 108, 105, 100, 97, 116, 101]) = false) (h10 : (L.toList == [115, 116, 97, 108, 101, 45, 105, 102, 45, 101, 114, 114, 111, 114]) = false) (h11 : (L.toList == [109, 97, 120, 45, 115, 116, 97, 108, 101]) = true) :
    Calls Tryz.prog 57 #[.agg (dArr d), .string x] w fun e w' => e = .returned (.agg (dArr (stepD d x))) ∧ Ext w w' := by
  have Hk := Lib.hid (show stepD d x = stepK d 11 (numQ (argE x)) (numQ (argE x)) (numQ (argE x)) by unfold stepD; rw [hL.out, kind_11 h0 h1 h2 h3 h4 h5 h6 h7 h8 h9 h10 h11, hth.out, timeK_yes 0 0 hok.out, timeK_yes 0 2147483647 hok.out, timeK_yes 2147483647 2147483647 hok.out])
  have hn0 : 0 ≤ numQ (argE x) := (numQ_range _).1
  have hA : Blk ((w.alloc (.cells (dArr d) 48)).alloc (.cells #[.bool false, .bool false, .bool false, .bool false, .bool false, .bool false, .int .i64 0, .int .i64 0, .int .i64 0, .int .i64 0, .int .i64 0, .int .i64 0] 48)) w.heap.size 48 (dArr d) := (Blk.new w _ _).alloc _
  have hB : Blk ((w.alloc (.cells (dArr d) 48)).alloc (.cells #[.bool false, .bool false, .bool false, .bool false, .bool false, .bool false, .int .i64 0, .int .i64 0, .int .i64 0, .int .i64 0, .int .i64 0, .int .i64 0] 48)) (w.heap.size + 1) 48 #[.bool false, .bool false, .bool false, .bool false, .bool false, .bool false, .int .i64 0, .int .i64 0, .int .i64 0, .int .i64 0, .int .i64 0, .int .i64 0] := by have := Blk.new (w.alloc (.cells (dArr d) 48)) 48 #[.bool false, .bool false, .bool false, .bool false, .bool false, .bool false, .int .i64 0, .int .i64 0, .int .i64 0, .int .i64 0, .int .i64 0, .int .i64 0]; rwa [World.size_alloc] at this
  have hE : Ext w ((w.alloc (.cells (dArr d) 48)).alloc (.cells #[.bool false, .bool false, .bool false, .bool false, .bool false, .bool false, .int .i64 0, .int .i64 0, .int .i64 0, .int .i64 0, .int .i64 0, .int .i64 0] 48)) := ((Ext.refl w).alloc _).alloc _
  have HA0 := Lib.hid hA; have HB0 := Lib.hid hB; have HE0 := Lib.hid hE; clear hA hB hE
  go_enter Tryz.func57, Tryz.ntmps57
  go_wp2_with fail
  generalize (w.alloc (.cells (dArr d) 48)).alloc (.cells #[.bool false, .bool false, .bool false, .bool false, .bool false, .bool false, .int .i64 0, .int .i64 0, .int .i64 0, .int .i64 0, .int .i64 0, .int .i64 0] 48) = W0 at *
  go_loop [5] (fun i => ∃ k : Nat, k ≤ x.size ∧ i = .int .i64 k ∧ ∀ j (hj : j < x.size), j < k → ¬ (x[j].toNat : Int) = 61) (fun i => x.size - (intOf i).toNat)
  case atStart => exact ⟨0, Nat.zero_le _, rfl, fun j _ h => absurd h (Nat.not_lt_zero _)⟩
  case round =>
    obtain ⟨k, hk, rfl, hall⟩ := hrel
    have Hall := Lib.hid hall; clear hall
    by_cases hlt : k < x.size
    · by_cases h61 : (x[k].toNat : Int) = 61
      · have Hnm := Lib.hid (name_at hk Hall.out (.inr ⟨hlt, h61⟩))
        have hne : ((x[k].toNat : Int) != 61) = false := by simp [h61]
        go_wp2_with fail
        refine (ref_Lower _ _ (by rw [ByteArray.size_extract]; omega)).mono ?_; rintro e w1 ⟨rfl, hb1⟩
        rw [← Hnm.out.1, hL.out]
        go_wp2_with fail
        refine (ref_number _ _ (by rw [ByteArray.size_extract]; omega)).mono ?_; rintro e w3 ⟨rfl, hb3⟩
        rw [← Hnm.out.2.2 hlt, hok.out]
        have HA := Lib.hid ((HA0.out.ext hb1).ext hb3)
        have HB := Lib.hid ((HB0.out.ext hb1).ext hb3)
        have HE := Lib.hid ((HE0.out.trans hb1).trans hb3)
        have hcl : w3.cell? ⟨w.heap.size, 10, none⟩ = some (.int .i64 d.n4) := HA.out.cell 10
        go_wp2_with fail
        refine (ref_lst d.n4 (numQ (argE x)) _ hn0).mono ?_; rintro e w4 ⟨rfl, hb4⟩
        have hA4 := HA.out.ext hb4
        have hcl4 : w4.cell? ⟨w.heap.size, 10, none⟩ = some (.int .i64 d.n4) := hA4.cell 10
        have hfz4 := hA4.frozen 10
        have HA4 := Lib.hid hA4; clear hA4
        go_wp2_with (first
          | (refine wpList_loadB rfl 48 (.tmp 2) rfl w.heap.size rfl 48 _ (HA4.out.set_ 10 (.int .i64 (lst d.n4 (numQ (argE x))))) _ Tryz.underlying48 infoD ?_)
          | (refine wpList_storeB rfl 48 (.tmp 4) (.tmp 107) rfl rfl (w.heap.size + 1) _ rfl rfl 48 _ ((HB.out.ext hb4).far (by simp) _) infoD rfl (dArr_one { d with n4 := lst d.n4 (numQ (argE x)) }) ?_; intro w9 hB9 hx9))
        exact bodyPost_ret (v := .agg (dArr { d with n4 := lst d.n4 (numQ (argE x)) })) (results_cell_row rfl _ _ (w.heap.size + 1) 48 _ (0, 0) _ rfl hB9 Tryz.underlying48 rfl infoD) rfl ⟨congrArg (fun z => Ending.returned (.agg (dArr z))) Hk.out.symm, ((HE.out.trans hb4).setCell (p := ⟨w.heap.size, 10, none⟩) (Nat.le_refl _) _).growB hx9 (by omega)⟩
      · have Hst := Lib.hid (at_step Hall.out hlt h61)
        have hne : ((x[k].toNat : Int) != 61) = true := by simp [h61]
        go_wp2_with fail
        go_round
        case rel => exact ⟨k + 1, by omega, by go_num, Hst.out⟩
        case measure => simp [intOf]; omega
    · have Hnm := Lib.hid (name_at hk Hall.out (.inl (by omega)))
      exact absurd (hth.out.symm.trans Hnm.out.2.1) (by simp [hlt])
set_option maxHeartbeats 1000000 in
set_option maxRecDepth 100000 in
theorem with_1_12 (d : D) (x L : ByteArray) (w : World) (hs : x.size ≤ 1048576) (hth : Hid (thE x = true)) (hok : Hid (okQ (argE x) = true)) (hL : Hid (lowS (eqName x) = L)) (h0 : (L.toList == [110, 111, 45, 115, 116, 111, 114, 101]) = false) (h1 : (L.toList == [110, 111, 45, 99, 97, 99, 104, 101]) = false) (h2 : (L.toList == [112, 114, 105, 118, 97, 116, 101]) = false) (h3 : (L.toList == [112, 117, 98, 108, 105, 99]) = false) (h4 : (L.toList == [109, 117, 115, 116, 45, 114, 101, 118, 97, 108, 105, 100, 97, 116, 101]) = false) (h5 : (L.toList == [112, 114, 111, 120, 121, 45, 114, 101, 118, 97, 108, 105, 100, 97, 116, 101]) = false) (h6 : (L.toList == [111, 110, 108, 121, 45, 105, 102, 45, 99, 97, 99, 104, 101, 100]) = false) (h7 : (L.toList == [109, 97, 120, 45, 97, 103, 101]) = false) (h8 : (L.toList == [115, 45, 109, 97, 120, 97, 103, 101]) = false) (h9 : (L.toList == [115, 116, 97, 108, 101, 45, 119, 104, 105, 108, 101, 45, 114, 101, 118, 97, 108, 105, 100, 97, 116, 101]) = false) (h10 : (L.toList == [115, 116, 97, 108, 101, 45, 105, 102, 45, 101, 114, 114, 111, 114]) = false) (h11 : (L.toList == [109, 97, 120, 45, 115, 116, 97, 108, 101]) = false) (h12 : (L.toList == [109, 105, 110, 45, 102, 114, 101, 115, 104]) = true) :
    Calls Tryz.prog 57 #[.agg (dArr d), .string x] w fun e w' => e = .returned (.agg (dArr (stepD d x))) ∧ Ext w w' := by
  have Hk := Lib.hid (show stepD d x = stepK d 12 (numQ (argE x)) (numQ (argE x)) (numQ (argE x)) by unfold stepD; rw [hL.out, kind_12 h0 h1 h2 h3 h4 h5 h6 h7 h8 h9 h10 h11 h12, hth.out, timeK_yes 0 0 hok.out, timeK_yes 0 2147483647 hok.out, timeK_yes 2147483647 2147483647 hok.out])
  have hn0 : 0 ≤ numQ (argE x) := (numQ_range _).1
  have hA : Blk ((w.alloc (.cells (dArr d) 48)).alloc (.cells #[.bool false, .bool false, .bool false, .bool false, .bool false, .bool false, .int .i64 0, .int .i64 0, .int .i64 0, .int .i64 0, .int .i64 0, .int .i64 0] 48)) w.heap.size 48 (dArr d) := (Blk.new w _ _).alloc _
  have hB : Blk ((w.alloc (.cells (dArr d) 48)).alloc (.cells #[.bool false, .bool false, .bool false, .bool false, .bool false, .bool false, .int .i64 0, .int .i64 0, .int .i64 0, .int .i64 0, .int .i64 0, .int .i64 0] 48)) (w.heap.size + 1) 48 #[.bool false, .bool false, .bool false, .bool false, .bool false, .bool false, .int .i64 0, .int .i64 0, .int .i64 0, .int .i64 0, .int .i64 0, .int .i64 0] := by have := Blk.new (w.alloc (.cells (dArr d) 48)) 48 #[.bool false, .bool false, .bool false, .bool false, .bool false, .bool false, .int .i64 0, .int .i64 0, .int .i64 0, .int .i64 0, .int .i64 0, .int .i64 0]; rwa [World.size_alloc] at this
  have hE : Ext w ((w.alloc (.cells (dArr d) 48)).alloc (.cells #[.bool false, .bool false, .bool false, .bool false, .bool false, .bool false, .int .i64 0, .int .i64 0, .int .i64 0, .int .i64 0, .int .i64 0, .int .i64 0] 48)) := ((Ext.refl w).alloc _).alloc _
  have HA0 := Lib.hid hA; have HB0 := Lib.hid hB; have HE0 := Lib.hid hE; clear hA hB hE
  go_enter Tryz.func57, Tryz.ntmps57
  go_wp2_with fail
  generalize (w.alloc (.cells (dArr d) 48)).alloc (.cells #[.bool false, .bool false, .bool false, .bool false, .bool false, .bool false, .int .i64 0, .int .i64 0, .int .i64 0, .int .i64 0, .int .i64 0, .int .i64 0] 48) = W0 at *
  go_loop [5] (fun i => ∃ k : Nat, k ≤ x.size ∧ i = .int .i64 k ∧ ∀ j (hj : j < x.size), j < k → ¬ (x[j].toNat : Int) = 61) (fun i => x.size - (intOf i).toNat)
  case atStart => exact ⟨0, Nat.zero_le _, rfl, fun j _ h => absurd h (Nat.not_lt_zero _)⟩
  case round =>
    obtain ⟨k, hk, rfl, hall⟩ := hrel
    have Hall := Lib.hid hall; clear hall
    by_cases hlt : k < x.size
    · by_cases h61 : (x[k].toNat : Int) = 61
      · have Hnm := Lib.hid (name_at hk Hall.out (.inr ⟨hlt, h61⟩))
        have hne : ((x[k].toNat : Int) != 61) = false := by simp [h61]
        go_wp2_with fail
        refine (ref_Lower _ _ (by rw [ByteArray.size_extract]; omega)).mono ?_; rintro e w1 ⟨rfl, hb1⟩
        rw [← Hnm.out.1, hL.out]
        go_wp2_with fail
        refine (ref_number _ _ (by rw [ByteArray.size_extract]; omega)).mono ?_; rintro e w3 ⟨rfl, hb3⟩
        rw [← Hnm.out.2.2 hlt, hok.out]
        have HA := Lib.hid ((HA0.out.ext hb1).ext hb3)
        have HB := Lib.hid ((HB0.out.ext hb1).ext hb3)
        have HE := Lib.hid ((HE0.out.trans hb1).trans hb3)
        have hcl : w3.cell? ⟨w.heap.size, 11, none⟩ = some (.int .i64 d.n5) := HA.out.cell 11
        have hfz := HA.out.frozen 11
        go_wp2_with (first
          | (refine wpList_loadB rfl 48 (.tmp 2) rfl w.heap.size rfl 48 _ (HA.out.set_ 11 (.int .i64 (max d.n5 (numQ (argE x))))) _ Tryz.underlying48 infoD ?_)
          | (refine wpList_storeB rfl 48 (.tmp 4) (.tmp 107) rfl rfl (w.heap.size + 1) _ rfl rfl 48 _ (HB.out.far (by simp) _) infoD rfl (dArr_one { d with n5 := max d.n5 (numQ (argE x)) }) ?_; intro w9 hB9 hx9))
        exact bodyPost_ret (v := .agg (dArr { d with n5 := max d.n5 (numQ (argE x)) })) (results_cell_row rfl _ _ (w.heap.size + 1) 48 _ (0, 0) _ rfl hB9 Tryz.underlying48 rfl infoD) rfl ⟨congrArg (fun z => Ending.returned (.agg (dArr z))) Hk.out.symm, (HE.out.setCell (p := ⟨w.heap.size, 11, none⟩) (Nat.le_refl _) _).growB hx9 (by omega)⟩
      · have Hst := Lib.hid (at_step Hall.out hlt h61)
        have hne : ((x[k].toNat : Int) != 61) = true := by simp [h61]
        go_wp2_with fail
        go_round
        case rel => exact ⟨k + 1, by omega, by go_num, Hst.out⟩
        case measure => simp [intOf]; omega
    · have Hnm := Lib.hid (name_at hk Hall.out (.inl (by omega)))
      exact absurd (hth.out.symm.trans Hnm.out.2.1) (by simp [hlt])
set_option maxHeartbeats 1000000 in
set_option maxRecDepth 100000 in
theorem with_1_13 (d : D) (x L : ByteArray) (w : World) (hs : x.size ≤ 1048576) (hth : Hid (thE x = true)) (hok : Hid (okQ (argE x) = true)) (hL : Hid (lowS (eqName x) = L)) (h0 : (L.toList == [110, 111, 45, 115, 116, 111, 114, 101]) = false) (h1 : (L.toList == [110, 111, 45, 99, 97, 99, 104, 101]) = false) (h2 : (L.toList == [112, 114, 105, 118, 97, 116, 101]) = false) (h3 : (L.toList == [112, 117, 98, 108, 105, 99]) = false) (h4 : (L.toList == [109, 117, 115, 116, 45, 114, 101, 118, 97, 108, 105, 100, 97, 116, 101]) = false) (h5 : (L.toList == [112, 114, 111, 120, 121, 45, 114, 101, 118, 97, 108, 105, 100, 97, 116, 101]) = false) (h6 : (L.toList == [111, 110, 108, 121, 45, 105, 102, 45, 99, 97, 99, 104, 101, 100]) = false) (h7 : (L.toList == [109, 97, 120, 45, 97, 103, 101]) = false) (h8 : (L.toList == [115, 45, 109, 97, 120, 97, 103, 101]) = false) (h9 : (L.toList == [115, 116, 97, 108, 101, 45, 119, 104, 105, 108, 101, 45, 114, 101, 118, 97, 108, 105, 100, 97, 116, 101]) = false) (h10 : (L.toList == [115, 116, 97, 108, 101, 45, 105, 102, 45, 101, 114, 114, 111, 114]) = false) (h11 : (L.toList == [109, 97, 120, 45, 115, 116, 97, 108, 101]) = false) (h12 : (L.toList == [109, 105, 110, 45, 102, 114, 101, 115, 104]) = false) :
    Calls Tryz.prog 57 #[.agg (dArr d), .string x] w fun e w' => e = .returned (.agg (dArr (stepD d x))) ∧ Ext w w' := by
  have Hk := Lib.hid (show stepD d x = stepK d 13 (numQ (argE x)) (numQ (argE x)) (numQ (argE x)) by unfold stepD; rw [hL.out, kind_13 h0 h1 h2 h3 h4 h5 h6 h7 h8 h9 h10 h11 h12, hth.out, timeK_yes 0 0 hok.out, timeK_yes 0 2147483647 hok.out, timeK_yes 2147483647 2147483647 hok.out])
  have hn0 : 0 ≤ numQ (argE x) := (numQ_range _).1
  have hA : Blk ((w.alloc (.cells (dArr d) 48)).alloc (.cells #[.bool false, .bool false, .bool false, .bool false, .bool false, .bool false, .int .i64 0, .int .i64 0, .int .i64 0, .int .i64 0, .int .i64 0, .int .i64 0] 48)) w.heap.size 48 (dArr d) := (Blk.new w _ _).alloc _
  have hB : Blk ((w.alloc (.cells (dArr d) 48)).alloc (.cells #[.bool false, .bool false, .bool false, .bool false, .bool false, .bool false, .int .i64 0, .int .i64 0, .int .i64 0, .int .i64 0, .int .i64 0, .int .i64 0] 48)) (w.heap.size + 1) 48 #[.bool false, .bool false, .bool false, .bool false, .bool false, .bool false, .int .i64 0, .int .i64 0, .int .i64 0, .int .i64 0, .int .i64 0, .int .i64 0] := by have := Blk.new (w.alloc (.cells (dArr d) 48)) 48 #[.bool false, .bool false, .bool false, .bool false, .bool false, .bool false, .int .i64 0, .int .i64 0, .int .i64 0, .int .i64 0, .int .i64 0, .int .i64 0]; rwa [World.size_alloc] at this
  have hE : Ext w ((w.alloc (.cells (dArr d) 48)).alloc (.cells #[.bool false, .bool false, .bool false, .bool false, .bool false, .bool false, .int .i64 0, .int .i64 0, .int .i64 0, .int .i64 0, .int .i64 0, .int .i64 0] 48)) := ((Ext.refl w).alloc _).alloc _
  have HA0 := Lib.hid hA; have HB0 := Lib.hid hB; have HE0 := Lib.hid hE; clear hA hB hE
  go_enter Tryz.func57, Tryz.ntmps57
  go_wp2_with fail
  generalize (w.alloc (.cells (dArr d) 48)).alloc (.cells #[.bool false, .bool false, .bool false, .bool false, .bool false, .bool false, .int .i64 0, .int .i64 0, .int .i64 0, .int .i64 0, .int .i64 0, .int .i64 0] 48) = W0 at *
  go_loop [5] (fun i => ∃ k : Nat, k ≤ x.size ∧ i = .int .i64 k ∧ ∀ j (hj : j < x.size), j < k → ¬ (x[j].toNat : Int) = 61) (fun i => x.size - (intOf i).toNat)
  case atStart => exact ⟨0, Nat.zero_le _, rfl, fun j _ h => absurd h (Nat.not_lt_zero _)⟩
  case round =>
    obtain ⟨k, hk, rfl, hall⟩ := hrel
    have Hall := Lib.hid hall; clear hall
    by_cases hlt : k < x.size
    · by_cases h61 : (x[k].toNat : Int) = 61
      · have Hnm := Lib.hid (name_at hk Hall.out (.inr ⟨hlt, h61⟩))
        have hne : ((x[k].toNat : Int) != 61) = false := by simp [h61]
        go_wp2_with fail
        refine (ref_Lower _ _ (by rw [ByteArray.size_extract]; omega)).mono ?_; rintro e w1 ⟨rfl, hb1⟩
        rw [← Hnm.out.1, hL.out]
        go_wp2_with fail
        refine (ref_number _ _ (by rw [ByteArray.size_extract]; omega)).mono ?_; rintro e w3 ⟨rfl, hb3⟩
        rw [← Hnm.out.2.2 hlt, hok.out]
        have HA := Lib.hid ((HA0.out.ext hb1).ext hb3)
        have HB := Lib.hid ((HB0.out.ext hb1).ext hb3)
        have HE := Lib.hid ((HE0.out.trans hb1).trans hb3)
        go_wp2_with (first
          | (refine wpList_loadB rfl 48 (.tmp 2) rfl w.heap.size rfl 48 _ (HA.out) _ Tryz.underlying48 infoD ?_)
          | (refine wpList_storeB rfl 48 (.tmp 4) (.tmp 107) rfl rfl (w.heap.size + 1) _ rfl rfl 48 _ (HB.out) infoD rfl (dArr_one d) ?_; intro w9 hB9 hx9))
        exact bodyPost_ret (v := .agg (dArr d)) (results_cell_row rfl _ _ (w.heap.size + 1) 48 _ (0, 0) _ rfl hB9 Tryz.underlying48 rfl infoD) rfl ⟨congrArg (fun z => Ending.returned (.agg (dArr z))) Hk.out.symm, (HE.out).growB hx9 (by omega)⟩
      · have Hst := Lib.hid (at_step Hall.out hlt h61)
        have hne : ((x[k].toNat : Int) != 61) = true := by simp [h61]
        go_wp2_with fail
        go_round
        case rel => exact ⟨k + 1, by omega, by go_num, Hst.out⟩
        case measure => simp [intOf]; omega
    · have Hnm := Lib.hid (name_at hk Hall.out (.inl (by omega)))
      exact absurd (hth.out.symm.trans Hnm.out.2.1) (by simp [hlt])
set_option maxHeartbeats 1000000 in
set_option maxRecDepth 100000 in
theorem with_2_0 (d : D) (x L : ByteArray) (w : World) (hs : x.size ≤ 1048576) (hth : Hid (thE x = true)) (hok : Hid (okQ (argE x) = false)) (hL : Hid (lowS (eqName x) = L)) (h0 : (L.toList == [110, 111, 45, 115, 116, 111, 114, 101]) = true) :
    Calls Tryz.prog 57 #[.agg (dArr d), .string x] w fun e w' => e = .returned (.agg (dArr (stepD d x))) ∧ Ext w w' := by
  have Hk := Lib.hid (show stepD d x = stepK d 0 0 0 2147483647 by unfold stepD; rw [hL.out, kind_0 h0, hth.out, timeK_bad 0 0 hok.out, timeK_bad 0 2147483647 hok.out, timeK_bad 2147483647 2147483647 hok.out])
  have hA : Blk ((w.alloc (.cells (dArr d) 48)).alloc (.cells #[.bool false, .bool false, .bool false, .bool false, .bool false, .bool false, .int .i64 0, .int .i64 0, .int .i64 0, .int .i64 0, .int .i64 0, .int .i64 0] 48)) w.heap.size 48 (dArr d) := (Blk.new w _ _).alloc _
  have hB : Blk ((w.alloc (.cells (dArr d) 48)).alloc (.cells #[.bool false, .bool false, .bool false, .bool false, .bool false, .bool false, .int .i64 0, .int .i64 0, .int .i64 0, .int .i64 0, .int .i64 0, .int .i64 0] 48)) (w.heap.size + 1) 48 #[.bool false, .bool false, .bool false, .bool false, .bool false, .bool false, .int .i64 0, .int .i64 0, .int .i64 0, .int .i64 0, .int .i64 0, .int .i64 0] := by have := Blk.new (w.alloc (.cells (dArr d) 48)) 48 #[.bool false, .bool false, .bool false, .bool false, .bool false, .bool false, .int .i64 0, .int .i64 0, .int .i64 0, .int .i64 0, .int .i64 0, .int .i64 0]; rwa [World.size_alloc] at this
  have hE : Ext w ((w.alloc (.cells (dArr d) 48)).alloc (.cells #[.bool false, .bool false, .bool false, .bool false, .bool false, .bool false, .int .i64 0, .int .i64 0, .int .i64 0, .int .i64 0, .int .i64 0, .int .i64 0] 48)) := ((Ext.refl w).alloc _).alloc _
  have HA0 := Lib.hid hA; have HB0 := Lib.hid hB; have HE0 := Lib.hid hE; clear hA hB hE
  go_enter Tryz.func57, Tryz.ntmps57
  go_wp2_with fail
  generalize (w.alloc (.cells (dArr d) 48)).alloc (.cells #[.bool false, .bool false, .bool false, .bool false, .bool false, .bool false, .int .i64 0, .int .i64 0, .int .i64 0, .int .i64 0, .int .i64 0, .int .i64 0] 48) = W0 at *
  go_loop [5] (fun i => ∃ k : Nat, k ≤ x.size ∧ i = .int .i64 k ∧ ∀ j (hj : j < x.size), j < k → ¬ (x[j].toNat : Int) = 61) (fun i => x.size - (intOf i).toNat)
  case atStart => exact ⟨0, Nat.zero_le _, rfl, fun j _ h => absurd h (Nat.not_lt_zero _)⟩
  case round =>
    obtain ⟨k, hk, rfl, hall⟩ := hrel
    have Hall := Lib.hid hall; clear hall
    by_cases hlt : k < x.size
    · by_cases h61 : (x[k].toNat : Int) = 61
      · have Hnm := Lib.hid (name_at hk Hall.out (.inr ⟨hlt, h61⟩))
        have hne : ((x[k].toNat : Int) != 61) = false := by simp [h61]
        go_wp2_with fail
        refine (ref_Lower _ _ (by rw [ByteArray.size_extract]; omega)).mono ?_; rintro e w1 ⟨rfl, hb1⟩
        rw [← Hnm.out.1, hL.out]
        go_wp2_with fail
        refine (ref_number _ _ (by rw [ByteArray.size_extract]; omega)).mono ?_; rintro e w3 ⟨rfl, hb3⟩
        rw [← Hnm.out.2.2 hlt, hok.out]
        have HA := Lib.hid ((HA0.out.ext hb1).ext hb3)
        have HB := Lib.hid ((HB0.out.ext hb1).ext hb3)
        have HE := Lib.hid ((HE0.out.trans hb1).trans hb3)
        have hcl : w3.cell? ⟨w.heap.size, 0, none⟩ = some (.bool d.b0) := HA.out.cell 0
        have hfz := HA.out.frozen 0
        go_wp2_with (first
          | (refine wpList_loadB rfl 48 (.tmp 2) rfl w.heap.size rfl 48 _ (HA.out.set_ 0 (.bool true)) _ Tryz.underlying48 infoD ?_)
          | (refine wpList_storeB rfl 48 (.tmp 4) (.tmp 107) rfl rfl (w.heap.size + 1) _ rfl rfl 48 _ (HB.out.far (by simp) _) infoD rfl (dArr_one { d with b0 := true }) ?_; intro w9 hB9 hx9))
        exact bodyPost_ret (v := .agg (dArr { d with b0 := true })) (results_cell_row rfl _ _ (w.heap.size + 1) 48 _ (0, 0) _ rfl hB9 Tryz.underlying48 rfl infoD) rfl ⟨congrArg (fun z => Ending.returned (.agg (dArr z))) Hk.out.symm, (HE.out.setCell (p := ⟨w.heap.size, 0, none⟩) (Nat.le_refl _) _).growB hx9 (by omega)⟩
      · have Hst := Lib.hid (at_step Hall.out hlt h61)
        have hne : ((x[k].toNat : Int) != 61) = true := by simp [h61]
        go_wp2_with fail
        go_round
        case rel => exact ⟨k + 1, by omega, by go_num, Hst.out⟩
        case measure => simp [intOf]; omega
    · have Hnm := Lib.hid (name_at hk Hall.out (.inl (by omega)))
      exact absurd (hth.out.symm.trans Hnm.out.2.1) (by simp [hlt])
set_option maxHeartbeats 1000000 in
set_option maxRecDepth 100000 in
theorem with_2_1 (d : D) (x L : ByteArray) (w : World) (hs : x.size ≤ 1048576) (hth : Hid (thE x = true)) (hok : Hid (okQ (argE x) = false)) (hL : Hid (lowS (eqName x) = L)) (h0 : (L.toList == [110, 111, 45, 115, 116, 111, 114, 101]) = false) (h1 : (L.toList == [110, 111, 45, 99, 97, 99, 104, 101]) = true) :
    Calls Tryz.prog 57 #[.agg (dArr d), .string x] w fun e w' => e = .returned (.agg (dArr (stepD d x))) ∧ Ext w w' := by
  have Hk := Lib.hid (show stepD d x = stepK d 1 0 0 2147483647 by unfold stepD; rw [hL.out, kind_1 h0 h1, hth.out, timeK_bad 0 0 hok.out, timeK_bad 0 2147483647 hok.out, timeK_bad 2147483647 2147483647 hok.out])
  have hA : Blk ((w.alloc (.cells (dArr d) 48)).alloc (.cells #[.bool false, .bool false, .bool false, .bool false, .bool false, .bool false, .int .i64 0, .int .i64 0, .int .i64 0, .int .i64 0, .int .i64 0, .int .i64 0] 48)) w.heap.size 48 (dArr d) := (Blk.new w _ _).alloc _
  have hB : Blk ((w.alloc (.cells (dArr d) 48)).alloc (.cells #[.bool false, .bool false, .bool false, .bool false, .bool false, .bool false, .int .i64 0, .int .i64 0, .int .i64 0, .int .i64 0, .int .i64 0, .int .i64 0] 48)) (w.heap.size + 1) 48 #[.bool false, .bool false, .bool false, .bool false, .bool false, .bool false, .int .i64 0, .int .i64 0, .int .i64 0, .int .i64 0, .int .i64 0, .int .i64 0] := by have := Blk.new (w.alloc (.cells (dArr d) 48)) 48 #[.bool false, .bool false, .bool false, .bool false, .bool false, .bool false, .int .i64 0, .int .i64 0, .int .i64 0, .int .i64 0, .int .i64 0, .int .i64 0]; rwa [World.size_alloc] at this
  have hE : Ext w ((w.alloc (.cells (dArr d) 48)).alloc (.cells #[.bool false, .bool false, .bool false, .bool false, .bool false, .bool false, .int .i64 0, .int .i64 0, .int .i64 0, .int .i64 0, .int .i64 0, .int .i64 0] 48)) := ((Ext.refl w).alloc _).alloc _
  have HA0 := Lib.hid hA; have HB0 := Lib.hid hB; have HE0 := Lib.hid hE; clear hA hB hE
  go_enter Tryz.func57, Tryz.ntmps57
  go_wp2_with fail
  generalize (w.alloc (.cells (dArr d) 48)).alloc (.cells #[.bool false, .bool false, .bool false, .bool false, .bool false, .bool false, .int .i64 0, .int .i64 0, .int .i64 0, .int .i64 0, .int .i64 0, .int .i64 0] 48) = W0 at *
  go_loop [5] (fun i => ∃ k : Nat, k ≤ x.size ∧ i = .int .i64 k ∧ ∀ j (hj : j < x.size), j < k → ¬ (x[j].toNat : Int) = 61) (fun i => x.size - (intOf i).toNat)
  case atStart => exact ⟨0, Nat.zero_le _, rfl, fun j _ h => absurd h (Nat.not_lt_zero _)⟩
  case round =>
    obtain ⟨k, hk, rfl, hall⟩ := hrel
    have Hall := Lib.hid hall; clear hall
    by_cases hlt : k < x.size
    · by_cases h61 : (x[k].toNat : Int) = 61
      · have Hnm := Lib.hid (name_at hk Hall.out (.inr ⟨hlt, h61⟩))
        have hne : ((x[k].toNat : Int) != 61) = false := by simp [h61]
        go_wp2_with fail
        refine (ref_Lower _ _ (by rw [ByteArray.size_extract]; omega)).mono ?_; rintro e w1 ⟨rfl, hb1⟩
        rw [← Hnm.out.1, hL.out]
        go_wp2_with fail
        refine (ref_number _ _ (by rw [ByteArray.size_extract]; omega)).mono ?_; rintro e w3 ⟨rfl, hb3⟩
        rw [← Hnm.out.2.2 hlt, hok.out]
        have HA := Lib.hid ((HA0.out.ext hb1).ext hb3)
        have HB := Lib.hid ((HB0.out.ext hb1).ext hb3)
        have HE := Lib.hid ((HE0.out.trans hb1).trans hb3)
        have hcl : w3.cell? ⟨w.heap.size, 1, none⟩ = some (.bool d.b1) := HA.out.cell 1
        have hfz := HA.out.frozen 1
        go_wp2_with (first
          | (refine wpList_loadB rfl 48 (.tmp 2) rfl w.heap.size rfl 48 _ (HA.out.set_ 1 (.bool true)) _ Tryz.underlying48 infoD ?_)
          | (refine wpList_storeB rfl 48 (.tmp 4) (.tmp 107) rfl rfl (w.heap.size + 1) _ rfl rfl 48 _ (HB.out.far (by simp) _) infoD rfl (dArr_one { d with b1 := true }) ?_; intro w9 hB9 hx9))
        exact bodyPost_ret (v := .agg (dArr { d with b1 := true })) (results_cell_row rfl _ _ (w.heap.size + 1) 48 _ (0, 0) _ rfl hB9 Tryz.underlying48 rfl infoD) rfl ⟨congrArg (fun z => Ending.returned (.agg (dArr z))) Hk.out.symm, (HE.out.setCell (p := ⟨w.heap.size, 1, none⟩) (Nat.le_refl _) _).growB hx9 (by omega)⟩
      · have Hst := Lib.hid (at_step Hall.out hlt h61)
        have hne : ((x[k].toNat : Int) != 61) = true := by simp [h61]
        go_wp2_with fail
        go_round
        case rel => exact ⟨k + 1, by omega, by go_num, Hst.out⟩
        case measure => simp [intOf]; omega
    · have Hnm := Lib.hid (name_at hk Hall.out (.inl (by omega)))
      exact absurd (hth.out.symm.trans Hnm.out.2.1) (by simp [hlt])
set_option maxHeartbeats 1000000 in
set_option maxRecDepth 100000 in
theorem with_2_2 (d : D) (x L : ByteArray) (w : World) (hs : x.size ≤ 1048576) (hth : Hid (thE x = true)) (hok : Hid (okQ (argE x) = false)) (hL : Hid (lowS (eqName x) = L)) (h0 : (L.toList == [110, 111, 45, 115, 116, 111, 114, 101]) = false) (h1 : (L.toList == [110, 111, 45, 99, 97, 99, 104, 101]) = false) (h2 : (L.toList == [112, 114, 105, 118, 97, 116, 101]) = true) :
    Calls Tryz.prog 57 #[.agg (dArr d), .string x] w fun e w' => e = .returned (.agg (dArr (stepD d x))) ∧ Ext w w' := by
  have Hk := Lib.hid (show stepD d x = stepK d 2 0 0 2147483647 by unfold stepD; rw [hL.out, kind_2 h0 h1 h2, hth.out, timeK_bad 0 0 hok.out, timeK_bad 0 2147483647 hok.out, timeK_bad 2147483647 2147483647 hok.out])
  have hA : Blk ((w.alloc (.cells (dArr d) 48)).alloc (.cells #[.bool false, .bool false, .bool false, .bool false, .bool false, .bool false, .int .i64 0, .int .i64 0, .int .i64 0, .int .i64 0, .int .i64 0, .int .i64 0] 48)) w.heap.size 48 (dArr d) := (Blk.new w _ _).alloc _
  have hB : Blk ((w.alloc (.cells (dArr d) 48)).alloc (.cells #[.bool false, .bool false, .bool false, .bool false, .bool false, .bool false, .int .i64 0, .int .i64 0, .int .i64 0, .int .i64 0, .int .i64 0, .int .i64 0] 48)) (w.heap.size + 1) 48 #[.bool false, .bool false, .bool false, .bool false, .bool false, .bool false, .int .i64 0, .int .i64 0, .int .i64 0, .int .i64 0, .int .i64 0, .int .i64 0] := by have := Blk.new (w.alloc (.cells (dArr d) 48)) 48 #[.bool false, .bool false, .bool false, .bool false, .bool false, .bool false, .int .i64 0, .int .i64 0, .int .i64 0, .int .i64 0, .int .i64 0, .int .i64 0]; rwa [World.size_alloc] at this
  have hE : Ext w ((w.alloc (.cells (dArr d) 48)).alloc (.cells #[.bool false, .bool false, .bool false, .bool false, .bool false, .bool false, .int .i64 0, .int .i64 0, .int .i64 0, .int .i64 0, .int .i64 0, .int .i64 0] 48)) := ((Ext.refl w).alloc _).alloc _
  have HA0 := Lib.hid hA; have HB0 := Lib.hid hB; have HE0 := Lib.hid hE; clear hA hB hE
  go_enter Tryz.func57, Tryz.ntmps57
  go_wp2_with fail
  generalize (w.alloc (.cells (dArr d) 48)).alloc (.cells #[.bool false, .bool false, .bool false, .bool false, .bool false, .bool false, .int .i64 0, .int .i64 0, .int .i64 0, .int .i64 0, .int .i64 0, .int .i64 0] 48) = W0 at *
  go_loop [5] (fun i => ∃ k : Nat, k ≤ x.size ∧ i = .int .i64 k ∧ ∀ j (hj : j < x.size), j < k → ¬ (x[j].toNat : Int) = 61) (fun i => x.size - (intOf i).toNat)
  case atStart => exact ⟨0, Nat.zero_le _, rfl, fun j _ h => absurd h (Nat.not_lt_zero _)⟩
  case round =>
    obtain ⟨k, hk, rfl, hall⟩ := hrel
    have Hall := Lib.hid hall; clear hall
    by_cases hlt : k < x.size
    · by_cases h61 : (x[k].toNat : Int) = 61
      · have Hnm := Lib.hid (name_at hk Hall.out (.inr ⟨hlt, h61⟩))
        have hne : ((x[k].toNat : Int) != 61) = false := by simp [h61]
        go_wp2_with fail
        refine (ref_Lower _ _ (by rw [ByteArray.size_extract]; omega)).mono ?_; rintro e w1 ⟨rfl, hb1⟩
        rw [← Hnm.out.1, hL.out]
        go_wp2_with fail
        refine (ref_number _ _ (by rw [ByteArray.size_extract]; omega)).mono ?_; rintro e w3 ⟨rfl, hb3⟩
        rw [← Hnm.out.2.2 hlt, hok.out]
        have HA := Lib.hid ((HA0.out.ext hb1).ext hb3)
        have HB := Lib.hid ((HB0.out.ext hb1).ext hb3)
        have HE := Lib.hid ((HE0.out.trans hb1).trans hb3)
        have hcl : w3.cell? ⟨w.heap.size, 2, none⟩ = some (.bool d.b2) := HA.out.cell 2
        have hfz := HA.out.frozen 2
        go_wp2_with (first
          | (refine wpList_loadB rfl 48 (.tmp 2) rfl w.heap.size rfl 48 _ (HA.out.set_ 2 (.bool true)) _ Tryz.underlying48 infoD ?_)
          | (refine wpList_storeB rfl 48 (.tmp 4) (.tmp 107) rfl rfl (w.heap.size + 1) _ rfl rfl 48 _ (HB.out.far (by simp) _) infoD rfl (dArr_one { d with b2 := true }) ?_; intro w9 hB9 hx9))
        exact bodyPost_ret (v := .agg (dArr { d with b2 := true })) (results_cell_row rfl _ _ (w.heap.size + 1) 48 _ (0, 0) _ rfl hB9 Tryz.underlying48 rfl infoD) rfl ⟨congrArg (fun z => Ending.returned (.agg (dArr z))) Hk.out.symm, (HE.out.setCell (p := ⟨w.heap.size, 2, none⟩) (Nat.le_refl _) _).growB hx9 (by omega)⟩
      · have Hst := Lib.hid (at_step Hall.out hlt h61)
        have hne : ((x[k].toNat : Int) != 61) = true := by simp [h61]
        go_wp2_with fail
        go_round
        case rel => exact ⟨k + 1, by omega, by go_num, Hst.out⟩
        case measure => simp [intOf]; omega
    · have Hnm := Lib.hid (name_at hk Hall.out (.inl (by omega)))
      exact absurd (hth.out.symm.trans Hnm.out.2.1) (by simp [hlt])
set_option maxHeartbeats 1000000 in
set_option maxRecDepth 100000 in
theorem with_2_3 (d : D) (x L : ByteArray) (w : World) (hs : x.size ≤ 1048576) (hth : Hid (thE x = true)) (hok : Hid (okQ (argE x) = false)) (hL : Hid (lowS (eqName x) = L)) (h0 : (L.toList == [110, 111, 45, 115, 116, 111, 114, 101]) = false) (h1 : (L.toList == [110, 111, 45, 99, 97, 99, 104, 101]) = false) (h2 : (L.toList == [112, 114, 105, 118, 97, 116, 101]) = false) (h3 : (L.toList == [112, 117, 98, 108, 105, 99]) = true) :
    Calls Tryz.prog 57 #[.agg (dArr d), .string x] w fun e w' => e = .returned (.agg (dArr (stepD d x))) ∧ Ext w w' := by
  have Hk := Lib.hid (show stepD d x = stepK d 3 0 0 2147483647 by unfold stepD; rw [hL.out, kind_3 h0 h1 h2 h3, hth.out, timeK_bad 0 0 hok.out, timeK_bad 0 2147483647 hok.out, timeK_bad 2147483647 2147483647 hok.out])
  have hA : Blk ((w.alloc (.cells (dArr d) 48)).alloc (.cells #[.bool false, .bool false, .bool false, .bool false, .bool false, .bool false, .int .i64 0, .int .i64 0, .int .i64 0, .int .i64 0, .int .i64 0, .int .i64 0] 48)) w.heap.size 48 (dArr d) := (Blk.new w _ _).alloc _
  have hB : Blk ((w.alloc (.cells (dArr d) 48)).alloc (.cells #[.bool false, .bool false, .bool false, .bool false, .bool false, .bool false, .int .i64 0, .int .i64 0, .int .i64 0, .int .i64 0, .int .i64 0, .int .i64 0] 48)) (w.heap.size + 1) 48 #[.bool false, .bool false, .bool false, .bool false, .bool false, .bool false, .int .i64 0, .int .i64 0, .int .i64 0, .int .i64 0, .int .i64 0, .int .i64 0] := by have := Blk.new (w.alloc (.cells (dArr d) 48)) 48 #[.bool false, .bool false, .bool false, .bool false, .bool false, .bool false, .int .i64 0, .int .i64 0, .int .i64 0, .int .i64 0, .int .i64 0, .int .i64 0]; rwa [World.size_alloc] at this
  have hE : Ext w ((w.alloc (.cells (dArr d) 48)).alloc (.cells #[.bool false, .bool false, .bool false, .bool false, .bool false, .bool false, .int .i64 0, .int .i64 0, .int .i64 0, .int .i64 0, .int .i64 0, .int .i64 0] 48)) := ((Ext.refl w).alloc _).alloc _
  have HA0 := Lib.hid hA; have HB0 := Lib.hid hB; have HE0 := Lib.hid hE; clear hA hB hE
  go_enter Tryz.func57, Tryz.ntmps57
  go_wp2_with fail
  generalize (w.alloc (.cells (dArr d) 48)).alloc (.cells #[.bool false, .bool false, .bool false, .bool false, .bool false, .bool false, .int .i64 0, .int .i64 0, .int .i64 0, .int .i64 0, .int .i64 0, .int .i64 0] 48) = W0 at *
  go_loop [5] (fun i => ∃ k : Nat, k ≤ x.size ∧ i = .int .i64 k ∧ ∀ j (hj : j < x.size), j < k → ¬ (x[j].toNat : Int) = 61) (fun i => x.size - (intOf i).toNat)
  case atStart => exact ⟨0, Nat.zero_le _, rfl, fun j _ h => absurd h (Nat.not_lt_zero _)⟩
  case round =>
    obtain ⟨k, hk, rfl, hall⟩ := hrel
    have Hall := Lib.hid hall; clear hall
    by_cases hlt : k < x.size
    · by_cases h61 : (x[k].toNat : Int) = 61
      · have Hnm := Lib.hid (name_at hk Hall.out (.inr ⟨hlt, h61⟩))
        have hne : ((x[k].toNat : Int) != 61) = false := by simp [h61]
        go_wp2_with fail
        refine (ref_Lower _ _ (by rw [ByteArray.size_extract]; omega)).mono ?_; rintro e w1 ⟨rfl, hb1⟩
        rw [← Hnm.out.1, hL.out]
        go_wp2_with fail
        refine (ref_number _ _ (by rw [ByteArray.size_extract]; omega)).mono ?_; rintro e w3 ⟨rfl, hb3⟩
        rw [← Hnm.out.2.2 hlt, hok.out]
        have HA := Lib.hid ((HA0.out.ext hb1).ext hb3)
        have HB := Lib.hid ((HB0.out.ext hb1).ext hb3)
        have HE := Lib.hid ((HE0.out.trans hb1).trans hb3)
        have hcl : w3.cell? ⟨w.heap.size, 3, none⟩ = some (.bool d.b3) := HA.out.cell 3
        have hfz := HA.out.frozen 3
        go_wp2_with (first
          | (refine wpList_loadB rfl 48 (.tmp 2) rfl w.heap.size rfl 48 _ (HA.out.set_ 3 (.bool true)) _ Tryz.underlying48 infoD ?_)
          | (refine wpList_storeB rfl 48 (.tmp 4) (.tmp 107) rfl rfl (w.heap.size + 1) _ rfl rfl 48 _ (HB.out.far (by simp) _) infoD rfl (dArr_one { d with b3 := true }) ?_; intro w9 hB9 hx9))
        exact bodyPost_ret (v := .agg (dArr { d with b3 := true })) (results_cell_row rfl _ _ (w.heap.size + 1) 48 _ (0, 0) _ rfl hB9 Tryz.underlying48 rfl infoD) rfl ⟨congrArg (fun z => Ending.returned (.agg (dArr z))) Hk.out.symm, (HE.out.setCell (p := ⟨w.heap.size, 3, none⟩) (Nat.le_refl _) _).growB hx9 (by omega)⟩
      · have Hst := Lib.hid (at_step Hall.out hlt h61)
        have hne : ((x[k].toNat : Int) != 61) = true := by simp [h61]
        go_wp2_with fail
        go_round
        case rel => exact ⟨k + 1, by omega, by go_num, Hst.out⟩
        case measure => simp [intOf]; omega
    · have Hnm := Lib.hid (name_at hk Hall.out (.inl (by omega)))
      exact absurd (hth.out.symm.trans Hnm.out.2.1) (by simp [hlt])
set_option maxHeartbeats 1000000 in
set_option maxRecDepth 100000 in
theorem with_2_4 (d : D) (x L : ByteArray) (w : World) (hs : x.size ≤ 1048576) (hth : Hid (thE x = true)) (hok : Hid (okQ (argE x) = false)) (hL : Hid (lowS (eqName x) = L)) (h0 : (L.toList == [110, 111, 45, 115, 116, 111, 114, 101]) = false) (h1 : (L.toList == [110, 111, 45, 99, 97, 99, 104, 101]) = false) (h2 : (L.toList == [112, 114, 105, 118, 97, 116, 101]) = false) (h3 : (L.toList == [112, 117, 98, 108, 105, 99]) = false) (h4 : (L.toList == [109, 117, 115, 116, 45, 114, 101, 118, 97, 108, 105, 100, 97, 116, 101]) = true) :
    Calls Tryz.prog 57 #[.agg (dArr d), .string x] w fun e w' => e = .returned (.agg (dArr (stepD d x))) ∧ Ext w w' := by
  have Hk := Lib.hid (show stepD d x = stepK d 4 0 0 2147483647 by unfold stepD; rw [hL.out, kind_4 h0 h1 h2 h3 h4, hth.out, timeK_bad 0 0 hok.out, timeK_bad 0 2147483647 hok.out, timeK_bad 2147483647 2147483647 hok.out])
  have hA : Blk ((w.alloc (.cells (dArr d) 48)).alloc (.cells #[.bool false, .bool false, .bool false, .bool false, .bool false, .bool false, .int .i64 0, .int .i64 0, .int .i64 0, .int .i64 0, .int .i64 0, .int .i64 0] 48)) w.heap.size 48 (dArr d) := (Blk.new w _ _).alloc _
  have hB : Blk ((w.alloc (.cells (dArr d) 48)).alloc (.cells #[.bool false, .bool false, .bool false, .bool false, .bool false, .bool false, .int .i64 0, .int .i64 0, .int .i64 0, .int .i64 0, .int .i64 0, .int .i64 0] 48)) (w.heap.size + 1) 48 #[.bool false, .bool false, .bool false, .bool false, .bool false, .bool false, .int .i64 0, .int .i64 0, .int .i64 0, .int .i64 0, .int .i64 0, .int .i64 0] := by have := Blk.new (w.alloc (.cells (dArr d) 48)) 48 #[.bool false, .bool false, .bool false, .bool false, .bool false, .bool false, .int .i64 0, .int .i64 0, .int .i64 0, .int .i64 0, .int .i64 0, .int .i64 0]; rwa [World.size_alloc] at this
  have hE : Ext w ((w.alloc (.cells (dArr d) 48)).alloc (.cells #[.bool false, .bool false, .bool false, .bool false, .bool false, .bool false, .int .i64 0, .int .i64 0, .int .i64 0, .int .i64 0, .int .i64 0, .int .i64 0] 48)) := ((Ext.refl w).alloc _).alloc _
  have HA0 := Lib.hid hA; have HB0 := Lib.hid hB; have HE0 := Lib.hid hE; clear hA hB hE
  go_enter Tryz.func57, Tryz.ntmps57
  go_wp2_with fail
  generalize (w.alloc (.cells (dArr d) 48)).alloc (.cells #[.bool false, .bool false, .bool false, .bool false, .bool false, .bool false, .int .i64 0, .int .i64 0, .int .i64 0, .int .i64 0, .int .i64 0, .int .i64 0] 48) = W0 at *
  go_loop [5] (fun i => ∃ k : Nat, k ≤ x.size ∧ i = .int .i64 k ∧ ∀ j (hj : j < x.size), j < k → ¬ (x[j].toNat : Int) = 61) (fun i => x.size - (intOf i).toNat)
  case atStart => exact ⟨0, Nat.zero_le _, rfl, fun j _ h => absurd h (Nat.not_lt_zero _)⟩
  case round =>
    obtain ⟨k, hk, rfl, hall⟩ := hrel
    have Hall := Lib.hid hall; clear hall
    by_cases hlt : k < x.size
    · by_cases h61 : (x[k].toNat : Int) = 61
      · have Hnm := Lib.hid (name_at hk Hall.out (.inr ⟨hlt, h61⟩))
        have hne : ((x[k].toNat : Int) != 61) = false := by simp [h61]
        go_wp2_with fail
        refine (ref_Lower _ _ (by rw [ByteArray.size_extract]; omega)).mono ?_; rintro e w1 ⟨rfl, hb1⟩
        rw [← Hnm.out.1, hL.out]
        go_wp2_with fail
        refine (ref_number _ _ (by rw [ByteArray.size_extract]; omega)).mono ?_; rintro e w3 ⟨rfl, hb3⟩
        rw [← Hnm.out.2.2 hlt, hok.out]
        have HA := Lib.hid ((HA0.out.ext hb1).ext hb3)
        have HB := Lib.hid ((HB0.out.ext hb1).ext hb3)
        have HE := Lib.hid ((HE0.out.trans hb1).trans hb3)
        have hcl : w3.cell? ⟨w.heap.size, 4, none⟩ = some (.bool d.b4) := HA.out.cell 4
        have hfz := HA.out.frozen 4
        go_wp2_with (first
          | (refine wpList_loadB rfl 48 (.tmp 2) rfl w.heap.size rfl 48 _ (HA.out.set_ 4 (.bool true)) _ Tryz.underlying48 infoD ?_)
          | (refine wpList_storeB rfl 48 (.tmp 4) (.tmp 107) rfl rfl (w.heap.size + 1) _ rfl rfl 48 _ (HB.out.far (by simp) _) infoD rfl (dArr_one { d with b4 := true }) ?_; intro w9 hB9 hx9))
        exact bodyPost_ret (v := .agg (dArr { d with b4 := true })) (results_cell_row rfl _ _ (w.heap.size + 1) 48 _ (0, 0) _ rfl hB9 Tryz.underlying48 rfl infoD) rfl ⟨congrArg (fun z => Ending.returned (.agg (dArr z))) Hk.out.symm, (HE.out.setCell (p := ⟨w.heap.size, 4, none⟩) (Nat.le_refl _) _).growB hx9 (by omega)⟩
      · have Hst := Lib.hid (at_step Hall.out hlt h61)
        have hne : ((x[k].toNat : Int) != 61) = true := by simp [h61]
        go_wp2_with fail
        go_round
        case rel => exact ⟨k + 1, by omega, by go_num, Hst.out⟩
        case measure => simp [intOf]; omega
    · have Hnm := Lib.hid (name_at hk Hall.out (.inl (by omega)))
      exact absurd (hth.out.symm.trans Hnm.out.2.1) (by simp [hlt])
set_option maxHeartbeats 1000000 in
set_option maxRecDepth 100000 in
theorem with_2_5 (d : D) (x L : ByteArray) (w : World) (hs : x.size ≤ 1048576) (hth : Hid (thE x = true)) (hok : Hid (okQ (argE x) = false)) (hL : Hid (lowS (eqName x) = L)) (h0 : (L.toList == [110, 111, 45, 115, 116, 111, 114, 101]) = false) (h1 : (L.toList == [110, 111, 45, 99, 97, 99, 104, 101]) = false) (h2 : (L.toList == [112, 114, 105, 118, 97, 116, 101]) = false) (h3 : (L.toList == [112, 117, 98, 108, 105, 99]) = false) (h4 : (L.toList == [109, 117, 115, 116, 45, 114, 101, 118, 97, 108, 105, 100, 97, 116, 101]) = false) (h5 : (L.toList == [112, 114, 111, 120, 121, 45, 114, 101, 118, 97, 108, 105, 100, 97, 116, 101]) = true) :
    Calls Tryz.prog 57 #[.agg (dArr d), .string x] w fun e w' => e = .returned (.agg (dArr (stepD d x))) ∧ Ext w w' := by
  have Hk := Lib.hid (show stepD d x = stepK d 5 0 0 2147483647 by unfold stepD; rw [hL.out, kind_5 h0 h1 h2 h3 h4 h5, hth.out, timeK_bad 0 0 hok.out, timeK_bad 0 2147483647 hok.out, timeK_bad 2147483647 2147483647 hok.out])
  have hA : Blk ((w.alloc (.cells (dArr d) 48)).alloc (.cells #[.bool false, .bool false, .bool false, .bool false, .bool false, .bool false, .int .i64 0, .int .i64 0, .int .i64 0, .int .i64 0, .int .i64 0, .int .i64 0] 48)) w.heap.size 48 (dArr d) := (Blk.new w _ _).alloc _
  have hB : Blk ((w.alloc (.cells (dArr d) 48)).alloc (.cells #[.bool false, .bool false, .bool false, .bool false, .bool false, .bool false, .int .i64 0, .int .i64 0, .int .i64 0, .int .i64 0, .int .i64 0, .int .i64 0] 48)) (w.heap.size + 1) 48 #[.bool false, .bool false, .bool false, .bool false, .bool false, .bool false, .int .i64 0, .int .i64 0, .int .i64 0, .int .i64 0, .int .i64 0, .int .i64 0] := by have := Blk.new (w.alloc (.cells (dArr d) 48)) 48 #[.bool false, .bool false, .bool false, .bool false, .bool false, .bool false, .int .i64 0, .int .i64 0, .int .i64 0, .int .i64 0, .int .i64 0, .int .i64 0]; rwa [World.size_alloc] at this
  have hE : Ext w ((w.alloc (.cells (dArr d) 48)).alloc (.cells #[.bool false, .bool false, .bool false, .bool false, .bool false, .bool false, .int .i64 0, .int .i64 0, .int .i64 0, .int .i64 0, .int .i64 0, .int .i64 0] 48)) := ((Ext.refl w).alloc _).alloc _
  have HA0 := Lib.hid hA; have HB0 := Lib.hid hB; have HE0 := Lib.hid hE; clear hA hB hE
  go_enter Tryz.func57, Tryz.ntmps57
  go_wp2_with fail
  generalize (w.alloc (.cells (dArr d) 48)).alloc (.cells #[.bool false, .bool false, .bool false, .bool false, .bool false, .bool false, .int .i64 0, .int .i64 0, .int .i64 0, .int .i64 0, .int .i64 0, .int .i64 0] 48) = W0 at *
  go_loop [5] (fun i => ∃ k : Nat, k ≤ x.size ∧ i = .int .i64 k ∧ ∀ j (hj : j < x.size), j < k → ¬ (x[j].toNat : Int) = 61) (fun i => x.size - (intOf i).toNat)
  case atStart => exact ⟨0, Nat.zero_le _, rfl, fun j _ h => absurd h (Nat.not_lt_zero _)⟩
  case round =>
    obtain ⟨k, hk, rfl, hall⟩ := hrel
    have Hall := Lib.hid hall; clear hall
    by_cases hlt : k < x.size
    · by_cases h61 : (x[k].toNat : Int) = 61
      · have Hnm := Lib.hid (name_at hk Hall.out (.inr ⟨hlt, h61⟩))
        have hne : ((x[k].toNat : Int) != 61) = false := by simp [h61]
        go_wp2_with fail
        refine (ref_Lower _ _ (by rw [ByteArray.size_extract]; omega)).mono ?_; rintro e w1 ⟨rfl, hb1⟩
        rw [← Hnm.out.1, hL.out]
        go_wp2_with fail
        refine (ref_number _ _ (by rw [ByteArray.size_extract]; omega)).mono ?_; rintro e w3 ⟨rfl, hb3⟩
        rw [← Hnm.out.2.2 hlt, hok.out]
        have HA := Lib.hid ((HA0.out.ext hb1).ext hb3)
        have HB := Lib.hid ((HB0.out.ext hb1).ext hb3)
        have HE := Lib.hid ((HE0.out.trans hb1).trans hb3)
        have hcl : w3.cell? ⟨w.heap.size, 4, none⟩ = some (.bool d.b4) := HA.out.cell 4
        have hfz := HA.out.frozen 4
        go_wp2_with (first
          | (refine wpList_loadB rfl 48 (.tmp 2) rfl w.heap.size rfl 48 _ (HA.out.set_ 4 (.bool true)) _ Tryz.underlying48 infoD ?_)
          | (refine wpList_storeB rfl 48 (.tmp 4) (.tmp 107) rfl rfl (w.heap.size + 1) _ rfl rfl 48 _ (HB.out.far (by simp) _) infoD rfl (dArr_one { d with b4 := true }) ?_; intro w9 hB9 hx9))
        exact bodyPost_ret (v := .agg (dArr { d with b4 := true })) (results_cell_row rfl _ _ (w.heap.size + 1) 48 _ (0, 0) _ rfl hB9 Tryz.underlying48 rfl infoD) rfl ⟨congrArg (fun z => Ending.returned (.agg (dArr z))) Hk.out.symm, (HE.out.setCell (p := ⟨w.heap.size, 4, none⟩) (Nat.le_refl _) _).growB hx9 (by omega)⟩
      · have Hst := Lib.hid (at_step Hall.out hlt h61)
        have hne : ((x[k].toNat : Int) != 61) = true := by simp [h61]
        go_wp2_with fail
        go_round
        case rel => exact ⟨k + 1, by omega, by go_num, Hst.out⟩
        case measure => simp [intOf]; omega
    · have Hnm := Lib.hid (name_at hk Hall.out (.inl (by omega)))
      exact absurd (hth.out.symm.trans Hnm.out.2.1) (by simp [hlt])
set_option maxHeartbeats 1000000 in
set_option maxRecDepth 100000 in
theorem with_2_6 (d : D) (x L : ByteArray) (w : World) (hs : x.size ≤ 1048576) (hth : Hid (thE x = true)) (hok : Hid (okQ (argE x) = false)) (hL : Hid (lowS (eqName x) = L)) (h0 : (L.toList == [110, 111, 45, 115, 116, 111, 114, 101]) = false) (h1 : (L.toList == [110, 111, 45, 99, 97, 99, 104, 101]) = false) (h2 : (L.toList == [112, 114, 105, 118, 97, 116, 101]) = false) (h3 : (L.toList == [112, 117, 98, 108, 105, 99]) = false) (h4 : (L.toList == [109, 117, 115, 116, 45, 114, 101, 118, 97, 108, 105, 100, 97, 116, 101]) = false) (h5 : (L.toList == [112, 114, 111, 120, 121, 45, 114, 101, 118, 97, 108, 105, 100, 97, 116, 101]) = false) (h6 : (L.toList == [111, 110, 108, 121, 45, 105, 102, 45, 99, 97, 99, 104, 101, 100]) = true) :
    Calls Tryz.prog 57 #[.agg (dArr d), .string x] w fun e w' => e = .returned (.agg (dArr (stepD d x))) ∧ Ext w w' := by
  have Hk := Lib.hid (show stepD d x = stepK d 6 0 0 2147483647 by unfold stepD; rw [hL.out, kind_6 h0 h1 h2 h3 h4 h5 h6, hth.out, timeK_bad 0 0 hok.out, timeK_bad 0 2147483647 hok.out, timeK_bad 2147483647 2147483647 hok.out])
  have hA : Blk ((w.alloc (.cells (dArr d) 48)).alloc (.cells #[.bool false, .bool false, .bool false, .bool false, .bool false, .bool false, .int .i64 0, .int .i64 0, .int .i64 0, .int .i64 0, .int .i64 0, .int .i64 0] 48)) w.heap.size 48 (dArr d) := (Blk.new w _ _).alloc _
  have hB : Blk ((w.alloc (.cells (dArr d) 48)).alloc (.cells #[.bool false, .bool false, .bool false, .bool false, .bool false, .bool false, .int .i64 0, .int .i64 0, .int .i64 0, .int .i64 0, .int .i64 0, .int .i64 0] 48)) (w.heap.size + 1) 48 #[.bool false, .bool false, .bool false, .bool false, .bool false, .bool false, .int .i64 0, .int .i64 0, .int .i64 0, .int .i64 0, .int .i64 0, .int .i64 0] := by have := Blk.new (w.alloc (.cells (dArr d) 48)) 48 #[.bool false, .bool false, .bool false, .bool false, .bool false, .bool false, .int .i64 0, .int .i64 0, .int .i64 0, .int .i64 0, .int .i64 0, .int .i64 0]; rwa [World.size_alloc] at this
  have hE : Ext w ((w.alloc (.cells (dArr d) 48)).alloc (.cells #[.bool false, .bool false, .bool false, .bool false, .bool false, .bool false, .int .i64 0, .int .i64 0, .int .i64 0, .int .i64 0, .int .i64 0, .int .i64 0] 48)) := ((Ext.refl w).alloc _).alloc _
  have HA0 := Lib.hid hA; have HB0 := Lib.hid hB; have HE0 := Lib.hid hE; clear hA hB hE
  go_enter Tryz.func57, Tryz.ntmps57
  go_wp2_with fail
  generalize (w.alloc (.cells (dArr d) 48)).alloc (.cells #[.bool false, .bool false, .bool false, .bool false, .bool false, .bool false, .int .i64 0, .int .i64 0, .int .i64 0, .int .i64 0, .int .i64 0, .int .i64 0] 48) = W0 at *
  go_loop [5] (fun i => ∃ k : Nat, k ≤ x.size ∧ i = .int .i64 k ∧ ∀ j (hj : j < x.size), j < k → ¬ (x[j].toNat : Int) = 61) (fun i => x.size - (intOf i).toNat)
  case atStart => exact ⟨0, Nat.zero_le _, rfl, fun j _ h => absurd h (Nat.not_lt_zero _)⟩
  case round =>
    obtain ⟨k, hk, rfl, hall⟩ := hrel
    have Hall := Lib.hid hall; clear hall
    by_cases hlt : k < x.size
    · by_cases h61 : (x[k].toNat : Int) = 61
      · have Hnm := Lib.hid (name_at hk Hall.out (.inr ⟨hlt, h61⟩))
        have hne : ((x[k].toNat : Int) != 61) = false := by simp [h61]
        go_wp2_with fail
        refine (ref_Lower _ _ (by rw [ByteArray.size_extract]; omega)).mono ?_; rintro e w1 ⟨rfl, hb1⟩
        rw [← Hnm.out.1, hL.out]
        go_wp2_with fail
        refine (ref_number _ _ (by rw [ByteArray.size_extract]; omega)).mono ?_; rintro e w3 ⟨rfl, hb3⟩
        rw [← Hnm.out.2.2 hlt, hok.out]
        have HA := Lib.hid ((HA0.out.ext hb1).ext hb3)
        have HB := Lib.hid ((HB0.out.ext hb1).ext hb3)
        have HE := Lib.hid ((HE0.out.trans hb1).trans hb3)
        have hcl : w3.cell? ⟨w.heap.size, 5, none⟩ = some (.bool d.b5) := HA.out.cell 5
        have hfz := HA.out.frozen 5
        go_wp2_with (first
          | (refine wpList_loadB rfl 48 (.tmp 2) rfl w.heap.size rfl 48 _ (HA.out.set_ 5 (.bool true)) _ Tryz.underlying48 infoD ?_)
          | (refine wpList_storeB rfl 48 (.tmp 4) (.tmp 107) rfl rfl (w.heap.size + 1) _ rfl rfl 48 _ (HB.out.far (by simp) _) infoD rfl (dArr_one { d with b5 := true }) ?_; intro w9 hB9 hx9))
        exact bodyPost_ret (v := .agg (dArr { d with b5 := true })) (results_cell_row rfl _ _ (w.heap.size + 1) 48 _ (0, 0) _ rfl hB9 Tryz.underlying48 rfl infoD) rfl ⟨congrArg (fun z => Ending.returned (.agg (dArr z))) Hk.out.symm, (HE.out.setCell (p := ⟨w.heap.size, 5, none⟩) (Nat.le_refl _) _).growB hx9 (by omega)⟩
      · have Hst := Lib.hid (at_step Hall.out hlt h61)
        have hne : ((x[k].toNat : Int) != 61) = true := by simp [h61]
        go_wp2_with fail
        go_round
        case rel => exact ⟨k + 1, by omega, by go_num, Hst.out⟩
        case measure => simp [intOf]; omega
    · have Hnm := Lib.hid (name_at hk Hall.out (.inl (by omega)))
      exact absurd (hth.out.symm.trans Hnm.out.2.1) (by simp [hlt])
set_option maxHeartbeats 1000000 in
set_option maxRecDepth 100000 in
theorem with_2_7 (d : D) (x L : ByteArray) (w : World) (hs : x.size ≤ 1048576) (hth : Hid (thE x = true)) (hok : Hid (okQ (argE x) = false)) (hL : Hid (lowS (eqName x) = L)) (h0 : (L.toList == [110, 111, 45, 115, 116, 111, 114, 101]) = false) (h1 : (L.toList == [110, 111, 45, 99, 97, 99, 104, 101]) = false) (h2 : (L.toList == [112, 114, 105, 118, 97, 116, 101]) = false) (h3 : (L.toList == [112, 117, 98, 108, 105, 99]) = false) (h4 : (L.toList == [109, 117, 115, 116, 45, 114, 101, 118, 97, 108, 105, 100, 97, 116, 101]) = false) (h5 : (L.toList == [112, 114, 111, 120, 121, 45, 114, 101, 118, 97, 108, 105, 100, 97, 116, 101]) = false) (h6 : (L.toList == [111, 110, 108, 121, 45, 105, 102, 45, 99, 97, 99, 104, 101, 100]) = false) (h7 : (L.toList == [109, 97, 120, 45, 97, 103, 101]) = true) :
    Calls Tryz.prog 57 #[.agg (dArr d), .string x] w fun e w' => e = .returned (.agg (dArr (stepD d x))) ∧ Ext w w' := by
  have Hk := Lib.hid (show stepD d x = stepK d 7 0 0 2147483647 by unfold stepD; rw [hL.out, kind_7 h0 h1 h2 h3 h4 h5 h6 h7, hth.out, timeK_bad 0 0 hok.out, timeK_bad 0 2147483647 hok.out, timeK_bad 2147483647 2147483647 hok.out])
  have hA : Blk ((w.alloc (.cells (dArr d) 48)).alloc (.cells #[.bool false, .bool false, .bool false, .bool false, .bool false, .bool false, .int .i64 0, .int .i64 0, .int .i64 0, .int .i64 0, .int .i64 0, .int .i64 0] 48)) w.heap.size 48 (dArr d) := (Blk.new w _ _).alloc _
  have hB : Blk ((w.alloc (.cells (dArr d) 48)).alloc (.cells #[.bool false, .bool false, .bool false, .bool false, .bool false, .bool false, .int .i64 0, .int .i64 0, .int .i64 0, .int .i64 0, .int .i64 0, .int .i64 0] 48)) (w.heap.size + 1) 48 #[.bool false, .bool false, .bool false, .bool false, .bool false, .bool false, .int .i64 0, .int .i64 0, .int .i64 0, .int .i64 0, .int .i64 0, .int .i64 0] := by have := Blk.new (w.alloc (.cells (dArr d) 48)) 48 #[.bool false, .bool false, .bool false, .bool false, .bool false, .bool false, .int .i64 0, .int .i64 0, .int .i64 0, .int .i64 0, .int .i64 0, .int .i64 0]; rwa [World.size_alloc] at this
  have hE : Ext w ((w.alloc (.cells (dArr d) 48)).alloc (.cells #[.bool false, .bool false, .bool false, .bool false, .bool false, .bool false, .int .i64 0, .int .i64 0, .int .i64 0, .int .i64 0, .int .i64 0, .int .i64 0] 48)) := ((Ext.refl w).alloc _).alloc _
  have HA0 := Lib.hid hA; have HB0 := Lib.hid hB; have HE0 := Lib.hid hE; clear hA hB hE
  go_enter Tryz.func57, Tryz.ntmps57
  go_wp2_with fail
  generalize (w.alloc (.cells (dArr d) 48)).alloc (.cells #[.bool false, .bool false, .bool false, .bool false, .bool false, .bool false, .int .i64 0, .int .i64 0, .int .i64 0, .int .i64 0, .int .i64 0, .int .i64 0] 48) = W0 at *
  go_loop [5] (fun i => ∃ k : Nat, k ≤ x.size ∧ i = .int .i64 k ∧ ∀ j (hj : j < x.size), j < k → ¬ (x[j].toNat : Int) = 61) (fun i => x.size - (intOf i).toNat)
  case atStart => exact ⟨0, Nat.zero_le _, rfl, fun j _ h => absurd h (Nat.not_lt_zero _)⟩
  case round =>
    obtain ⟨k, hk, rfl, hall⟩ := hrel
    have Hall := Lib.hid hall; clear hall
    by_cases hlt : k < x.size
    · by_cases h61 : (x[k].toNat : Int) = 61
      · have Hnm := Lib.hid (name_at hk Hall.out (.inr ⟨hlt, h61⟩))
        have hne : ((x[k].toNat : Int) != 61) = false := by simp [h61]
        go_wp2_with fail
        refine (ref_Lower _ _ (by rw [ByteArray.size_extract]; omega)).mono ?_; rintro e w1 ⟨rfl, hb1⟩
        rw [← Hnm.out.1, hL.out]
        go_wp2_with fail
        refine (ref_number _ _ (by rw [ByteArray.size_extract]; omega)).mono ?_; rintro e w3 ⟨rfl, hb3⟩
        rw [← Hnm.out.2.2 hlt, hok.out]
        have HA := Lib.hid ((HA0.out.ext hb1).ext hb3)
        have HB := Lib.hid ((HB0.out.ext hb1).ext hb3)
        have HE := Lib.hid ((HE0.out.trans hb1).trans hb3)
        have hcl : w3.cell? ⟨w.heap.size, 6, none⟩ = some (.int .i64 d.n0) := HA.out.cell 6
        go_wp2_with fail
        refine (ref_lst d.n0 0 _ (by decide)).mono ?_; rintro e w4 ⟨rfl, hb4⟩
        have hA4 := HA.out.ext hb4
        have hcl4 : w4.cell? ⟨w.heap.size, 6, none⟩ = some (.int .i64 d.n0) := hA4.cell 6
        have hfz4 := hA4.frozen 6
        have HA4 := Lib.hid hA4; clear hA4
        go_wp2_with (first
          | (refine wpList_loadB rfl 48 (.tmp 2) rfl w.heap.size rfl 48 _ (HA4.out.set_ 6 (.int .i64 (lst d.n0 0))) _ Tryz.underlying48 infoD ?_)
          | (refine wpList_storeB rfl 48 (.tmp 4) (.tmp 107) rfl rfl (w.heap.size + 1) _ rfl rfl 48 _ ((HB.out.ext hb4).far (by simp) _) infoD rfl (dArr_one { d with n0 := lst d.n0 0 }) ?_; intro w9 hB9 hx9))
        exact bodyPost_ret (v := .agg (dArr { d with n0 := lst d.n0 0 })) (results_cell_row rfl _ _ (w.heap.size + 1) 48 _ (0, 0) _ rfl hB9 Tryz.underlying48 rfl infoD) rfl ⟨congrArg (fun z => Ending.returned (.agg (dArr z))) Hk.out.symm, ((HE.out.trans hb4).setCell (p := ⟨w.heap.size, 6, none⟩) (Nat.le_refl _) _).growB hx9 (by omega)⟩
      · have Hst := Lib.hid (at_step Hall.out hlt h61)
        have hne : ((x[k].toNat : Int) != 61) = true := by simp [h61]
        go_wp2_with fail
        go_round
        case rel => exact ⟨k + 1, by omega, by go_num, Hst.out⟩
        case measure => simp [intOf]; omega
    · have Hnm := Lib.hid (name_at hk Hall.out (.inl (by omega)))
      exact absurd (hth.out.symm.trans Hnm.out.2.1) (by simp [hlt])
set_option maxHeartbeats 1000000 in
set_option maxRecDepth 100000 in
theorem with_2_8 (d : D) (x L : ByteArray) (w : World) (hs : x.size ≤ 1048576) (hth : Hid (thE x = true)) (hok : Hid (okQ (argE x) = false)) (hL : Hid (lowS (eqName x) = L)) (h0 : (L.toList == [110, 111, 45, 115, 116, 111, 114, 101]) = false) (h1 : (L.toList == [110, 111, 45, 99, 97, 99, 104, 101]) = false) (h2 : (L.toList == [112, 114, 105, 118, 97, 116, 101]) = false) (h3 : (L.toList == [112, 117, 98, 108, 105, 99]) = false) (h4 : (L.toList == [109, 117, 115, 116, 45, 114, 101, 118, 97, 108, 105, 100, 97, 116, 101]) = false) (h5 : (L.toList == [112, 114, 111, 120, 121, 45, 114, 101, 118, 97, 108, 105, 100, 97, 116, 101]) = false) (h6 : (L.toList == [111, 110, 108, 121, 45, 105, 102, 45, 99, 97, 99, 104, 101, 100]) = false) (h7 : (L.toList == [109, 97, 120, 45, 97, 103, 101]) = false) (h8 : (L.toList == [115, 45, 109, 97, 120, 97, 103, 101]) = true) :
    Calls Tryz.prog 57 #[.agg (dArr d), .string x] w fun e w' => e = .returned (.agg (dArr (stepD d x))) ∧ Ext w w' := by
  have Hk := Lib.hid (show stepD d x = stepK d 8 0 0 2147483647 by unfold stepD; rw [hL.out, kind_8 h0 h1 h2 h3 h4 h5 h6 h7 h8, hth.out, timeK_bad 0 0 hok.out, timeK_bad 0 2147483647 hok.out, timeK_bad 2147483647 2147483647 hok.out])
  have hA : Blk ((w.alloc (.cells (dArr d) 48)).alloc (.cells #[.bool false, .bool false, .bool false, .bool false, .bool false, .bool false, .int .i64 0, .int .i64 0, .int .i64 0, .int .i64 0, .int .i64 0, .int .i64 0] 48)) w.heap.size 48 (dArr d) := (Blk.new w _ _).alloc _
  have hB : Blk ((w.alloc (.cells (dArr d) 48)).alloc (.cells #[.bool false, .bool false, .bool false, .bool false, .bool false, .bool false, .int .i64 0, .int .i64 0, .int .i64 0, .int .i64 0, .int .i64 0, .int .i64 0] 48)) (w.heap.size + 1) 48 #[.bool false, .bool false, .bool false, .bool false, .bool false, .bool false, .int .i64 0, .int .i64 0, .int .i64 0, .int .i64 0, .int .i64 0, .int .i64 0] := by have := Blk.new (w.alloc (.cells (dArr d) 48)) 48 #[.bool false, .bool false, .bool false, .bool false, .bool false, .bool false, .int .i64 0, .int .i64 0, .int .i64 0, .int .i64 0, .int .i64 0, .int .i64 0]; rwa [World.size_alloc] at this
  have hE : Ext w ((w.alloc (.cells (dArr d) 48)).alloc (.cells #[.bool false, .bool false, .bool false, .bool false, .bool false, .bool false, .int .i64 0, .int .i64 0, .int .i64 0, .int .i64 0, .int .i64 0, .int .i64 0] 48)) := ((Ext.refl w).alloc _).alloc _
  have HA0 := Lib.hid hA; have HB0 := Lib.hid hB; have HE0 := Lib.hid hE; clear hA hB hE
  go_enter Tryz.func57, Tryz.ntmps57
  go_wp2_with fail
  generalize (w.alloc (.cells (dArr d) 48)).alloc (.cells #[.bool false, .bool false, .bool false, .bool false, .bool false, .bool false, .int .i64 0, .int .i64 0, .int .i64 0, .int .i64 0, .int .i64 0, .int .i64 0] 48) = W0 at *
  go_loop [5] (fun i => ∃ k : Nat, k ≤ x.size ∧ i = .int .i64 k ∧ ∀ j (hj : j < x.size), j < k → ¬ (x[j].toNat : Int) = 61) (fun i => x.size - (intOf i).toNat)
  case atStart => exact ⟨0, Nat.zero_le _, rfl, fun j _ h => absurd h (Nat.not_lt_zero _)⟩
  case round =>
    obtain ⟨k, hk, rfl, hall⟩ := hrel
    have Hall := Lib.hid hall; clear hall
    by_cases hlt : k < x.size
    · by_cases h61 : (x[k].toNat : Int) = 61
      · have Hnm := Lib.hid (name_at hk Hall.out (.inr ⟨hlt, h61⟩))
        have hne : ((x[k].toNat : Int) != 61) = false := by simp [h61]
        go_wp2_with fail
        refine (ref_Lower _ _ (by rw [ByteArray.size_extract]; omega)).mono ?_; rintro e w1 ⟨rfl, hb1⟩
        rw [← Hnm.out.1, hL.out]
        go_wp2_with fail
        refine (ref_number _ _ (by rw [ByteArray.size_extract]; omega)).mono ?_; rintro e w3 ⟨rfl, hb3⟩
        rw [← Hnm.out.2.2 hlt, hok.out]
        have HA := Lib.hid ((HA0.out.ext hb1).ext hb3)
        have HB := Lib.hid ((HB0.out.ext hb1).ext hb3)
        have HE := Lib.hid ((HE0.out.trans hb1).trans hb3)
        have hcl : w3.cell? ⟨w.heap.size, 7, none⟩ = some (.int .i64 d.n1) := HA.out.cell 7
        go_wp2_with fail
        refine (ref_lst d.n1 0 _ (by decide)).mono ?_; rintro e w4 ⟨rfl, hb4⟩
        have hA4 := HA.out.ext hb4
        have hcl4 : w4.cell? ⟨w.heap.size, 7, none⟩ = some (.int .i64 d.n1) := hA4.cell 7
        have hfz4 := hA4.frozen 7
        have HA4 := Lib.hid hA4; clear hA4
        go_wp2_with (first
          | (refine wpList_loadB rfl 48 (.tmp 2) rfl w.heap.size rfl 48 _ (HA4.out.set_ 7 (.int .i64 (lst d.n1 0))) _ Tryz.underlying48 infoD ?_)
          | (refine wpList_storeB rfl 48 (.tmp 4) (.tmp 107) rfl rfl (w.heap.size + 1) _ rfl rfl 48 _ ((HB.out.ext hb4).far (by simp) _) infoD rfl (dArr_one { d with n1 := lst d.n1 0 }) ?_; intro w9 hB9 hx9))
        exact bodyPost_ret (v := .agg (dArr { d with n1 := lst d.n1 0 })) (results_cell_row rfl _ _ (w.heap.size + 1) 48 _ (0, 0) _ rfl hB9 Tryz.underlying48 rfl infoD) rfl ⟨congrArg (fun z => Ending.returned (.agg (dArr z))) Hk.out.symm, ((HE.out.trans hb4).setCell (p := ⟨w.heap.size, 7, none⟩) (Nat.le_refl _) _).growB hx9 (by omega)⟩
      · have Hst := Lib.hid (at_step Hall.out hlt h61)
        have hne : ((x[k].toNat : Int) != 61) = true := by simp [h61]
        go_wp2_with fail
        go_round
        case rel => exact ⟨k + 1, by omega, by go_num, Hst.out⟩
        case measure => simp [intOf]; omega
    · have Hnm := Lib.hid (name_at hk Hall.out (.inl (by omega)))
      exact absurd (hth.out.symm.trans Hnm.out.2.1) (by simp [hlt])
set_option maxHeartbeats 1000000 in
set_option maxRecDepth 100000 in
theorem with_2_9 (d : D) (x L : ByteArray) (w : World) (hs : x.size ≤ 1048576) (hth : Hid (thE x = true)) (hok : Hid (okQ (argE x) = false)) (hL : Hid (lowS (eqName x) = L)) (h0 : (L.toList == [110, 111, 45, 115, 116, 111, 114, 101]) = false) (h1 : (L.toList == [110, 111, 45, 99, 97, 99, 104, 101]) = false) (h2 : (L.toList == [112, 114, 105, 118, 97, 116, 101]) = false) (h3 : (L.toList == [112, 117, 98, 108, 105, 99]) = false) (h4 : (L.toList == [109, 117, 115, 116, 45, 114, 101, 118, 97, 108, 105, 100, 97, 116, 101]) = false) (h5 : (L.toList == [112, 114, 111, 120, 121, 45, 114, 101, 118, 97, 108, 105, 100, 97, 116, 101]) = false) (h6 : (L.toList == [111, 110, 108, 121, 45, 105, 102, 45, 99, 97, 99, 104, 101, 100]) = false) (h7 : (L.toList == [109, 97, 120, 45, 97, 103, 101]) = false) (h8 : (L.toList == [115, 45, 109, 97, 120, 97, 103, 101]) = false) (h9 : (L.toList == [115, 116, 97, 108, 101, 45, 119, 104, 105, 108, 101, 45, 114, 101, 118, 97, 108, 105, 100, 97, 116, 101]) = true) :
    Calls Tryz.prog 57 #[.agg (dArr d), .string x] w fun e w' => e = .returned (.agg (dArr (stepD d x))) ∧ Ext w w' := by
  have Hk := Lib.hid (show stepD d x = stepK d 9 0 0 2147483647 by unfold stepD; rw [hL.out, kind_9 h0 h1 h2 h3 h4 h5 h6 h7 h8 h9, hth.out, timeK_bad 0 0 hok.out, timeK_bad 0 2147483647 hok.out, timeK_bad 2147483647 2147483647 hok.out])
  have hA : Blk ((w.alloc (.cells (dArr d) 48)).alloc (.cells #[.bool false, .bool false, .bool false, .bool false, .bool false, .bool false, .int .i64 0, .int .i64 0, .int .i64 0, .int .i64 0, .int .i64 0, .int .i64 0] 48)) w.heap.size 48 (dArr d) := (Blk.new w _ _).alloc _
  have hB : Blk ((w.alloc (.cells (dArr d) 48)).alloc (.cells #[.bool false, .bool false, .bool false, .bool false, .bool false, .bool false, .int .i64 0, .int .i64 0, .int .i64 0, .int .i64 0, .int .i64 0, .int .i64 0] 48)) (w.heap.size + 1) 48 #[.bool false, .bool false, .bool false, .bool false, .bool false, .bool false, .int .i64 0, .int .i64 0, .int .i64 0, .int .i64 0, .int .i64 0, .int .i64 0] := by have := Blk.new (w.alloc (.cells (dArr d) 48)) 48 #[.bool false, .bool false, .bool false, .bool false, .bool false, .bool false, .int .i64 0, .int .i64 0, .int .i64 0, .int .i64 0, .int .i64 0, .int .i64 0]; rwa [World.size_alloc] at this
  have hE : Ext w ((w.alloc (.cells (dArr d) 48)).alloc (.cells #[.bool false, .bool false, .bool false, .bool false, .bool false, .bool false, .int .i64 0, .int .i64 0, .int .i64 0, .int .i64 0, .int .i64 0, .int .i64 0] 48)) := ((Ext.refl w).alloc _).alloc _
  have HA0 := Lib.hid hA; have HB0 := Lib.hid hB; have HE0 := Lib.hid hE; clear hA hB hE
  go_enter Tryz.func57, Tryz.ntmps57
  go_wp2_with fail
  generalize (w.alloc (.cells (dArr d) 48)).alloc (.cells #[.bool false, .bool false, .bool false, .bool false, .bool false, .bool false, .int .i64 0, .int .i64 0, .int .i64 0, .int .i64 0, .int .i64 0, .int .i64 0] 48) = W0 at *
  go_loop [5] (fun i => ∃ k : Nat, k ≤ x.size ∧ i = .int .i64 k ∧ ∀ j (hj : j < x.size), j < k → ¬ (x[j].toNat : Int) = 61) (fun i => x.size - (intOf i).toNat)
  case atStart => exact ⟨0, Nat.zero_le _, rfl, fun j _ h => absurd h (Nat.not_lt_zero _)⟩
  case round =>
    obtain ⟨k, hk, rfl, hall⟩ := hrel
    have Hall := Lib.hid hall; clear hall
    by_cases hlt : k < x.size
    · by_cases h61 : (x[k].toNat : Int) = 61
      · have Hnm := Lib.hid (name_at hk Hall.out (.inr ⟨hlt, h61⟩))
        have hne : ((x[k].toNat : Int) != 61) = false := by simp [h61]
        go_wp2_with fail
        refine (ref_Lower _ _ (by rw [ByteArray.size_extract]; omega)).mono ?_; rintro e w1 ⟨rfl, hb1⟩
        rw [← Hnm.out.1, hL.out]
        go_wp2_with fail
        refine (ref_number _ _ (by rw [ByteArray.size_extract]; omega)).mono ?_; rintro e w3 ⟨rfl, hb3⟩
        rw [← Hnm.out.2.2 hlt, hok.out]
        have HA := Lib.hid ((HA0.out.ext hb1).ext hb3)
        have HB := Lib.hid ((HB0.out.ext hb1).ext hb3)
        have HE := Lib.hid ((HE0.out.trans hb1).trans hb3)
        have hcl : w3.cell? ⟨w.heap.size, 8, none⟩ = some (.int .i64 d.n2) := HA.out.cell 8
        go_wp2_with fail
        refine (ref_lst d.n2 0 _ (by decide)).mono ?_; rintro e w4 ⟨rfl, hb4⟩
        have hA4 := HA.out.ext hb4
        have hcl4 : w4.cell? ⟨w.heap.size, 8, none⟩ = some (.int .i64 d.n2) := hA4.cell 8
        have hfz4 := hA4.frozen 8
        have HA4 := Lib.hid hA4; clear hA4
        go_wp2_with (first
          | (refine wpList_loadB rfl 48 (.tmp 2) rfl w.heap.size rfl 48 _ (HA4.out.set_ 8 (.int .i64 (lst d.n2 0))) _ Tryz.underlying48 infoD ?_)
          | (refine wpList_storeB rfl 48 (.tmp 4) (.tmp 107) rfl rfl (w.heap.size + 1) _ rfl rfl 48 _ ((HB.out.ext hb4).far (by simp) _) infoD rfl (dArr_one { d with n2 := lst d.n2 0 }) ?_; intro w9 hB9 hx9))
        exact bodyPost_ret (v := .agg (dArr { d with n2 := lst d.n2 0 })) (results_cell_row rfl _ _ (w.heap.size + 1) 48 _ (0, 0) _ rfl hB9 Tryz.underlying48 rfl infoD) rfl ⟨congrArg (fun z => Ending.returned (.agg (dArr z))) Hk.out.symm, ((HE.out.trans hb4).setCell (p := ⟨w.heap.size, 8, none⟩) (Nat.le_refl _) _).growB hx9 (by omega)⟩
      · have Hst := Lib.hid (at_step Hall.out hlt h61)
        have hne : ((x[k].toNat : Int) != 61) = true := by simp [h61]
        go_wp2_with fail
        go_round
        case rel => exact ⟨k + 1, by omega, by go_num, Hst.out⟩
        case measure => simp [intOf]; omega
    · have Hnm := Lib.hid (name_at hk Hall.out (.inl (by omega)))
      exact absurd (hth.out.symm.trans Hnm.out.2.1) (by simp [hlt])
set_option maxHeartbeats 1000000 in
set_option maxRecDepth 100000 in
theorem with_2_10 (d : D) (x L : ByteArray) (w : World) (hs : x.size ≤ 1048576) (hth : Hid (thE x = true)) (hok : Hid (okQ (argE x) = false)) (hL : Hid (lowS (eqName x) = L)) (h0 : (L.toList == [110, 111, 45, 115, 116, 111, 114, 101]) = false) (h1 : (L.toList == [110, 111, 45, 99, 97, 99, 104, 101]) = false) (h2 : (L.toList == [112, 114, 105, 118, 97, 116, 101]) = false) (h3 : (L.toList == [112, 117, 98, 108, 105, 99]) = false) (h4 : (L.toList == [109, 117, 115, 116, 45, 114, 101, 118, 97, 108, 105, 100, 97, 116, 101]) = false) (h5 : (L.toList == [112, 114, 111, 120, 121, 45, 114, 101, 118, 97, 108, 105, 100, 97, 116, 101]) = false) (h6 : (L.toList == [111, 110, 108, 121, 45, 105, 102, 45, 99, 97, 99, 104, 101, 100]) = false) (h7 : (L.toList == [109, 97, 120, 45, 97, 103, 101]) = false) (h8 : (L.toList == [115, 45, 109, 97, 120, 97, 103, 101]) = false) (h9 : (L.toList == [115, 116, 97, 108, 101, 45, 119, 104, 105, 108, 101, 45, 114, 101, 118, 97, 108, 105, 100, 97, 116, 101]) = false) (h10 : (L.toList == [115, 116, 97, 108, 101, 45, 105, 102, 45, 101, 114, 114, 111, 114]) = true) :
    Calls Tryz.prog 57 #[.agg (dArr d), .string x] w fun e w' => e = .returned (.agg (dArr (stepD d x))) ∧ Ext w w' := by
  have Hk := Lib.hid (show stepD d x = stepK d 10 0 0 2147483647 by unfold stepD; rw [hL.out, kind_10 h0 h1 h2 h3 h4 h5 h6 h7 h8 h9 h10, hth.out, timeK_bad 0 0 hok.out, timeK_bad 0 2147483647 hok.out, timeK_bad 2147483647 2147483647 hok.out])
  have hA : Blk ((w.alloc (.cells (dArr d) 48)).alloc (.cells #[.bool false, .bool false, .bool false, .bool false, .bool false, .bool false, .int .i64 0, .int .i64 0, .int .i64 0, .int .i64 0, .int .i64 0, .int .i64 0] 48)) w.heap.size 48 (dArr d) := (Blk.new w _ _).alloc _
  have hB : Blk ((w.alloc (.cells (dArr d) 48)).alloc (.cells #[.bool false, .bool false, .bool false, .bool false, .bool false, .bool false, .int .i64 0, .int .i64 0, .int .i64 0, .int .i64 0, .int .i64 0, .int .i64 0] 48)) (w.heap.size + 1) 48 #[.bool false, .bool false, .bool false, .bool false, .bool false, .bool false, .int .i64 0, .int .i64 0, .int .i64 0, .int .i64 0, .int .i64 0, .int .i64 0] := by have := Blk.new (w.alloc (.cells (dArr d) 48)) 48 #[.bool false, .bool false, .bool false, .bool false, .bool false, .bool false, .int .i64 0, .int .i64 0, .int .i64 0, .int .i64 0, .int .i64 0, .int .i64 0]; rwa [World.size_alloc] at this
  have hE : Ext w ((w.alloc (.cells (dArr d) 48)).alloc (.cells #[.bool false, .bool false, .bool false, .bool false, .bool false, .bool false, .int .i64 0, .int .i64 0, .int .i64 0, .int .i64 0, .int .i64 0, .int .i64 0] 48)) := ((Ext.refl w).alloc _).alloc _
  have HA0 := Lib.hid hA; have HB0 := Lib.hid hB; have HE0 := Lib.hid hE; clear hA hB hE
  go_enter Tryz.func57, Tryz.ntmps57
  go_wp2_with fail
  generalize (w.alloc (.cells (dArr d) 48)).alloc (.cells #[.bool false, .bool false, .bool false, .bool false, .bool false, .bool false, .int .i64 0, .int .i64 0, .int .i64 0, .int .i64 0, .int .i64 0, .int .i64 0] 48) = W0 at *
  go_loop [5] (fun i => ∃ k : Nat, k ≤ x.size ∧ i = .int .i64 k ∧ ∀ j (hj : j < x.size), j < k → ¬ (x[j].toNat : Int) = 61) (fun i => x.size - (intOf i).toNat)
  case atStart => exact ⟨0, Nat.zero_le _, rfl, fun j _ h => absurd h (Nat.not_lt_zero _)⟩
  case round =>
    obtain ⟨k, hk, rfl, hall⟩ := hrel
    have Hall := Lib.hid hall; clear hall
    by_cases hlt : k < x.size
    · by_cases h61 : (x[k].toNat : Int) = 61
      · have Hnm := Lib.hid (name_at hk Hall.out (.inr ⟨hlt, h61⟩))
        have hne : ((x[k].toNat : Int) != 61) = false := by simp [h61]
        go_wp2_with fail
        refine (ref_Lower _ _ (by rw [ByteArray.size_extract]; omega)).mono ?_; rintro e w1 ⟨rfl, hb1⟩
        rw [← Hnm.out.1, hL.out]
        go_wp2_with fail
        refine (ref_number _ _ (by rw [ByteArray.size_extract]; omega)).mono ?_; rintro e w3 ⟨rfl, hb3⟩
        rw [← Hnm.out.2.2 hlt, hok.out]
        have HA := Lib.hid ((HA0.out.ext hb1).ext hb3)
        have HB := Lib.hid ((HB0.out.ext hb1).ext hb3)
        have HE := Lib.hid ((HE0.out.trans hb1).trans hb3)
        have hcl : w3.cell? ⟨w.heap.size, 9, none⟩ = some (.int .i64 d.n3) := HA.out.cell 9
        go_wp2_with fail
        refine (ref_lst d.n3 0 _ (by decide)).mono ?_; rintro e w4 ⟨rfl, hb4⟩
        have hA4 := HA.out.ext hb4
        have hcl4 : w4.cell? ⟨w.heap.size, 9, none⟩ = some (.int .i64 d.n3) := hA4.cell 9
        have hfz4 := hA4.frozen 9
        have HA4 := Lib.hid hA4; clear hA4
        go_wp2_with (first
          | (refine wpList_loadB rfl 48 (.tmp 2) rfl w.heap.size rfl 48 _ (HA4.out.set_ 9 (.int .i64 (lst d.n3 0))) _ Tryz.underlying48 infoD ?_)
          | (refine wpList_storeB rfl 48 (.tmp 4) (.tmp 107) rfl rfl (w.heap.size + 1) _ rfl rfl 48 _ ((HB.out.ext hb4).far (by simp) _) infoD rfl (dArr_one { d with n3 := lst d.n3 0 }) ?_; intro w9 hB9 hx9))
        exact bodyPost_ret (v := .agg (dArr { d with n3 := lst d.n3 0 })) (results_cell_row rfl _ _ (w.heap.size + 1) 48 _ (0, 0) _ rfl hB9 Tryz.underlying48 rfl infoD) rfl ⟨congrArg (fun z => Ending.returned (.agg (dArr z))) Hk.out.symm, ((HE.out.trans hb4).setCell (p := ⟨w.heap.size, 9, none⟩) (Nat.le_refl _) _).growB hx9 (by omega)⟩
      · have Hst := Lib.hid (at_step Hall.out hlt h61)
        have hne : ((x[k].toNat : Int) != 61) = true := by simp [h61]
        go_wp2_with fail
        go_round
        case rel => exact ⟨k + 1, by omega, by go_num, Hst.out⟩
        case measure => simp [intOf]; omega
    · have Hnm := Lib.hid (name_at hk Hall.out (.inl (by omega)))
      exact absurd (hth.out.symm.trans Hnm.out.2.1) (by simp [hlt])
set_option maxHeartbeats 1000000 in
set_option maxRecDepth 100000 in
theorem with_2_11 (d : D) (x L : ByteArray) (w : World) (hs : x.size ≤ 1048576) (hth : Hid (thE x = true)) (hok : Hid (okQ (argE x) = false)) (hL : Hid (lowS (eqName x) = L)) (h0 : (L.toList == [110, 111, 45, 115, 116, 111, 114, 101]) = false) (h1 : (L.toList == [110, 111, 45, 99, 97, 99, 104, 101]) = false) (h2 : (L.toList == [112, 114, 105, 118, 97, 116, 101]) = false) (h3 : (L.toList == [112, 117, 98, 108, 105, 99]) = false) (h4 : (L.toList == [109, 117, 115, 116, 45, 114, 101, 118, 97, 108, 105, 100, 97, 116, 101]) = false) (h5 : (L.toList == [112, 114, 111, 120, 121, 45, 114, 101, 118, 97, 108, 105, 100, 97, 116, 101]) = false) (h6 : (L.toList == [111, 110, 108, 121, 45, 105, 102, 45, 99, 97, 99, 104, 101, 100]) = false) (h7 : (L.toList == [109, 97, 120, 45, 97, 103, 101]) = false) (h8 : (L.toList == [115, 45, 109, 97, 120, 97, 103, 101]) = false) (h9 : (L.toList == [115, 116, 97, 108, 101, 45, 119, 104, 105, 108, 101, 45, 114, 101, 118, 97, 108, 105, 100, 97, 116, 101]) = false) (h10 : (L.toList == [115, 116, 97, 108, 101, 45, 105, 102, 45, 101, 114, 114, 111, 114]) = false) (h11 : (L.toList == [109, 97, 120, 45, 115, 116, 97, 108, 101]) = true) :
    Calls Tryz.prog 57 #[.agg (dArr d), .string x] w fun e w' => e = .returned (.agg (dArr (stepD d x))) ∧ Ext w w' := by
  have Hk := Lib.hid (show stepD d x = stepK d 11 0 0 2147483647 by unfold stepD; rw [hL.out, kind_11 h0 h1 h2 h3 h4 h5 h6 h7 h8 h9 h10 h11, hth.out, timeK_bad 0 0 hok.out, timeK_bad 0 2147483647 hok.out, timeK_bad 2147483647 2147483647 hok.out])
  have hA : Blk ((w.alloc (.cells (dArr d) 48)).alloc (.cells #[.bool false, .bool false, .bool false, .bool false, .bool false, .bool false, .int .i64 0, .int .i64 0, .int .i64 0, .int .i64 0, .int .i64 0, .int .i64 0] 48)) w.heap.size 48 (dArr d) := (Blk.new w _ _).alloc _
  have hB : Blk ((w.alloc (.cells (dArr d) 48)).alloc (.cells #[.bool false, .bool false, .bool false, .bool false, .bool false, .bool false, .int .i64 0, .int .i64 0, .int .i64 0, .int .i64 0, .int .i64 0, .int .i64 0] 48)) (w.heap.size + 1) 48 #[.bool false, .bool false, .bool false, .bool false, .bool false, .bool false, .int .i64 0, .int .i64 0, .int .i64 0, .int .i64 0, .int .i64 0, .int .i64 0] := by have := Blk.new (w.alloc (.cells (dArr d) 48)) 48 #[.bool false, .bool false, .bool false, .bool false, .bool false, .bool false, .int .i64 0, .int .i64 0, .int .i64 0, .int .i64 0, .int .i64 0, .int .i64 0]; rwa [World.size_alloc] at this
  have hE : Ext w ((w.alloc (.cells (dArr d) 48)).alloc (.cells #[.bool false, .bool false, .bool false, .bool false, .bool false, .bool false, .int .i64 0, .int .i64 0, .int .i64 0, .int .i64 0, .int .i64 0, .int .i64 0] 48)) := ((Ext.refl w).alloc _).alloc _
  have HA0 := Lib.hid hA; have HB0 := Lib.hid hB; have HE0 := Lib.hid hE; clear hA hB hE
  go_enter Tryz.func57, Tryz.ntmps57
  go_wp2_with fail
  generalize (w.alloc (.cells (dArr d) 48)).alloc (.cells #[.bool false, .bool false, .bool false, .bool false, .bool false, .bool false, .int .i64 0, .int .i64 0, .int .i64 0, .int .i64 0, .int .i64 0, .int .i64 0] 48) = W0 at *
  go_loop [5] (fun i => ∃ k : Nat, k ≤ x.size ∧ i = .int .i64 k ∧ ∀ j (hj : j < x.size), j < k → ¬ (x[j].toNat : Int) = 61) (fun i => x.size - (intOf i).toNat)
  case atStart => exact ⟨0, Nat.zero_le _, rfl, fun j _ h => absurd h (Nat.not_lt_zero _)⟩
  case round =>
    obtain ⟨k, hk, rfl, hall⟩ := hrel
    have Hall := Lib.hid hall; clear hall
    by_cases hlt : k < x.size
    · by_cases h61 : (x[k].toNat : Int) = 61
      · have Hnm := Lib.hid (name_at hk Hall.out (.inr ⟨hlt, h61⟩))
        have hne : ((x[k].toNat : Int) != 61) = false := by simp [h61]
        go_wp2_with fail
        refine (ref_Lower _ _ (by rw [ByteArray.size_extract]; omega)).mono ?_; rintro e w1 ⟨rfl, hb1⟩
        rw [← Hnm.out.1, hL.out]
        go_wp2_with fail
        refine (ref_number _ _ (by rw [ByteArray.size_extract]; omega)).mono ?_; rintro e w3 ⟨rfl, hb3⟩
        rw [← Hnm.out.2.2 hlt, hok.out]
        have HA := Lib.hid ((HA0.out.ext hb1).ext hb3)
        have HB := Lib.hid ((HB0.out.ext hb1).ext hb3)
        have HE := Lib.hid ((HE0.out.trans hb1).trans hb3)
        have hcl : w3.cell? ⟨w.heap.size, 10, none⟩ = some (.int .i64 d.n4) := HA.out.cell 10
        go_wp2_with fail
        refine (ref_lst d.n4 0 _ (by decide)).mono ?_; rintro e w4 ⟨rfl, hb4⟩
        have hA4 := HA.out.ext hb4
        have hcl4 : w4.cell? ⟨w.heap.size, 10, none⟩ = some (.int .i64 d.n4) := hA4.cell 10
        have hfz4 := hA4.frozen 10
        have HA4 := Lib.hid hA4; clear hA4
        go_wp2_with (first
          | (refine wpList_loadB rfl 48 (.tmp 2) rfl w.heap.size rfl 48 _ (HA4.out.set_ 10 (.int .i64 (lst d.n4 0))) _ Tryz.underlying48 infoD ?_)
          | (refine wpList_storeB rfl 48 (.tmp 4) (.tmp 107) rfl rfl (w.heap.size + 1) _ rfl rfl 48 _ ((HB.out.ext hb4).far (by simp) _) infoD rfl (dArr_one { d with n4 := lst d.n4 0 }) ?_; intro w9 hB9 hx9))
        exact bodyPost_ret (v := .agg (dArr { d with n4 := lst d.n4 0 })) (results_cell_row rfl _ _ (w.heap.size + 1) 48 _ (0, 0) _ rfl hB9 Tryz.underlying48 rfl infoD) rfl ⟨congrArg (fun z => Ending.returned (.agg (dArr z))) Hk.out.symm, ((HE.out.trans hb4).setCell (p := ⟨w.heap.size, 10, none⟩) (Nat.le_refl _) _).growB hx9 (by omega)⟩
      · have Hst := Lib.hid (at_step Hall.out hlt h61)
        have hne : ((x[k].toNat : Int) != 61) = true := by simp [h61]
        go_wp2_with fail
        go_round
        case rel => exact ⟨k + 1, by omega, by go_num, Hst.out⟩
        case measure => simp [intOf]; omega
    · have Hnm := Lib.hid (name_at hk Hall.out (.inl (by omega)))
      exact absurd (hth.out.symm.trans Hnm.out.2.1) (by simp [hlt])
set_option maxHeartbeats 1000000 in
set_option maxRecDepth 100000 in
theorem with_2_12 (d : D) (x L : ByteArray) (w : World) (hs : x.size ≤ 1048576) (hth : Hid (thE x = true)) (hok : Hid (okQ (argE x) = false)) (hL : Hid (lowS (eqName x) = L)) (h0 : (L.toList == [110, 111, 45, 115, 116, 111, 114, 101]) = false) (h1 : (L.toList == [110, 111, 45, 99, 97, 99, 104, 101]) = false) (h2 : (L.toList == [112, 114, 105, 118, 97, 116, 101]) = false) (h3 : (L.toList == [112, 117, 98, 108, 105, 99]) = false) (h4 : (L.toList == [109, 117, 115, 116, 45, 114, 101, 118, 97, 108, 105, 100, 97, 116, 101]) = false) (h5 : (L.toList == [112, 114, 111, 120, 121, 45, 114, 101, 118, 97, 108, 105, 100, 97, 116, 101]) = false) (h6 : (L.toList == [111, 110, 108, 121, 45, 105, 102, 45, 99, 97, 99, 104, 101, 100]) = false) (h7 : (L.toList == [109, 97, 120, 45, 97, 103, 101]) = false) (h8 : (L.toList == [115, 45, 109, 97, 120, 97, 103, 101]) = false) (h9 : (L.toList == [115, 116, 97, 108, 101, 45, 119, 104, 105, 108, 101, 45, 114, 101, 118, 97, 108, 105, 100, 97, 116, 101]) = false) (h10 : (L.toList == [115, 116, 97, 108, 101, 45, 105, 102, 45, 101, 114, 114, 111, 114]) = false) (h11 : (L.toList == [109, 97, 120, 45, 115, 116, 97, 108, 101]) = false) (h12 : (L.toList == [109, 105, 110, 45, 102, 114, 101, 115, 104]) = true) :
    Calls Tryz.prog 57 #[.agg (dArr d), .string x] w fun e w' => e = .returned (.agg (dArr (stepD d x))) ∧ Ext w w' := by
  have Hk := Lib.hid (show stepD d x = stepK d 12 0 0 2147483647 by unfold stepD; rw [hL.out, kind_12 h0 h1 h2 h3 h4 h5 h6 h7 h8 h9 h10 h11 h12, hth.out, timeK_bad 0 0 hok.out, timeK_bad 0 2147483647 hok.out, timeK_bad 2147483647 2147483647 hok.out])
  have hA : Blk ((w.alloc (.cells (dArr d) 48)).alloc (.cells #[.bool false, .bool false, .bool false, .bool false, .bool false, .bool false, .int .i64 0, .int .i64 0, .int .i64 0, .int .i64 0, .int .i64 0, .int .i64 0] 48)) w.heap.size 48 (dArr d) := (Blk.new w _ _).alloc _
  have hB : Blk ((w.alloc (.cells (dArr d) 48)).alloc (.cells #[.bool false, .bool false, .bool false, .bool false, .bool false, .bool false, .int .i64 0, .int .i64 0, .int .i64 0, .int .i64 0, .int .i64 0, .int .i64 0] 48)) (w.heap.size + 1) 48 #[.bool false, .bool false, .bool false, .bool false, .bool false, .bool false, .int .i64 0, .int .i64 0, .int .i64 0, .int .i64 0, .int .i64 0, .int .i64 0] := by have := Blk.new (w.alloc (.cells (dArr d) 48)) 48 #[.bool false, .bool false, .bool false, .bool false, .bool false, .bool false, .int .i64 0, .int .i64 0, .int .i64 0, .int .i64 0, .int .i64 0, .int .i64 0]; rwa [World.size_alloc] at this
  have hE : Ext w ((w.alloc (.cells (dArr d) 48)).alloc (.cells #[.bool false, .bool false, .bool false, .bool false, .bool false, .bool false, .int .i64 0, .int .i64 0, .int .i64 0, .int .i64 0, .int .i64 0, .int .i64 0] 48)) := ((Ext.refl w).alloc _).alloc _
  have HA0 := Lib.hid hA; have HB0 := Lib.hid hB; have HE0 := Lib.hid hE; clear hA hB hE
  go_enter Tryz.func57, Tryz.ntmps57
  go_wp2_with fail
  generalize (w.alloc (.cells (dArr d) 48)).alloc (.cells #[.bool false, .bool false, .bool false, .bool false, .bool false, .bool false, .int .i64 0, .int .i64 0, .int .i64 0, .int .i64 0, .int .i64 0, .int .i64 0] 48) = W0 at *
  go_loop [5] (fun i => ∃ k : Nat, k ≤ x.size ∧ i = .int .i64 k ∧ ∀ j (hj : j < x.size), j < k → ¬ (x[j].toNat : Int) = 61) (fun i => x.size - (intOf i).toNat)
  case atStart => exact ⟨0, Nat.zero_le _, rfl, fun j _ h => absurd h (Nat.not_lt_zero _)⟩
  case round =>
    obtain ⟨k, hk, rfl, hall⟩ := hrel
    have Hall := Lib.hid hall; clear hall
    by_cases hlt : k < x.size
    · by_cases h61 : (x[k].toNat : Int) = 61
      · have Hnm := Lib.hid (name_at hk Hall.out (.inr ⟨hlt, h61⟩))
        have hne : ((x[k].toNat : Int) != 61) = false := by simp [h61]
        go_wp2_with fail
        refine (ref_Lower _ _ (by rw [ByteArray.size_extract]; omega)).mono ?_; rintro e w1 ⟨rfl, hb1⟩
        rw [← Hnm.out.1, hL.out]
        go_wp2_with fail
        refine (ref_number _ _ (by rw [ByteArray.size_extract]; omega)).mono ?_; rintro e w3 ⟨rfl, hb3⟩
        rw [← Hnm.out.2.2 hlt, hok.out]
        have HA := Lib.hid ((HA0.out.ext hb1).ext hb3)
        have HB := Lib.hid ((HB0.out.ext hb1).ext hb3)
        have HE := Lib.hid ((HE0.out.trans hb1).trans hb3)
        have hcl : w3.cell? ⟨w.heap.size, 11, none⟩ = some (.int .i64 d.n5) := HA.out.cell 11
        have hfz := HA.out.frozen 11
        go_wp2_with (first
          | (refine wpList_loadB rfl 48 (.tmp 2) rfl w.heap.size rfl 48 _ (HA.out.set_ 11 (.int .i64 (max d.n5 2147483647))) _ Tryz.underlying48 infoD ?_)
          | (refine wpList_storeB rfl 48 (.tmp 4) (.tmp 107) rfl rfl (w.heap.size + 1) _ rfl rfl 48 _ (HB.out.far (by simp) _) infoD rfl (dArr_one { d with n5 := max d.n5 2147483647 }) ?_; intro w9 hB9 hx9))
        exact bodyPost_ret (v := .agg (dArr { d with n5 := max d.n5 2147483647 })) (results_cell_row rfl _ _ (w.heap.size + 1) 48 _ (0, 0) _ rfl hB9 Tryz.underlying48 rfl infoD) rfl ⟨congrArg (fun z => Ending.returned (.agg (dArr z))) Hk.out.symm, (HE.out.setCell (p := ⟨w.heap.size, 11, none⟩) (Nat.le_refl _) _).growB hx9 (by omega)⟩
      · have Hst := Lib.hid (at_step Hall.out hlt h61)
        have hne : ((x[k].toNat : Int) != 61) = true := by simp [h61]
        go_wp2_with fail
        go_round
        case rel => exact ⟨k + 1, by omega, by go_num, Hst.out⟩
        case measure => simp [intOf]; omega
    · have Hnm := Lib.hid (name_at hk Hall.out (.inl (by omega)))
      exact absurd (hth.out.symm.trans Hnm.out.2.1) (by simp [hlt])
set_option maxHeartbeats 1000000 in
set_option maxRecDepth 100000 in
theorem with_2_13 (d : D) (x L : ByteArray) (w : World) (hs : x.size ≤ 1048576) (hth : Hid (thE x = true)) (hok : Hid (okQ (argE x) = false)) (hL : Hid (lowS (eqName x) = L)) (h0 : (L.toList == [110, 111, 45, 115, 116, 111, 114, 101]) = false) (h1 : (L.toList == [110, 111, 45, 99, 97, 99, 104, 101]) = false) (h2 : (L.toList == [112, 114, 105, 118, 97, 116, 101]) = false) (h3 : (L.toList == [112, 117, 98, 108, 105, 99]) = false) (h4 : (L.toList == [109, 117, 115, 116, 45, 114, 101, 118, 97, 108, 105, 100, 97, 116, 101]) = false) (h5 : (L.toList == [112, 114, 111, 120, 121, 45, 114, 101, 118, 97, 108, 105, 100, 97, 116, 101]) = false) (h6 : (L.toList == [111, 110, 108, 121, 45, 105, 102, 45, 99, 97, 99, 104, 101, 100]) = false) (h7 : (L.toList == [109, 97, 120, 45, 97, 103, 101]) = false) (h8 : (L.toList == [115, 45, 109, 97, 120, 97, 103, 101]) = false) (h9 : (L.toList == [115, 116, 97, 108, 101, 45, 119, 104, 105, 108, 101, 45, 114, 101, 118, 97, 108, 105, 100, 97, 116, 101]) = false) (h10 : (L.toList == [115, 116, 97, 108, 101, 45, 105, 102, 45, 101, 114, 114, 111, 114]) = false) (h11 : (L.toList == [109, 97, 120, 45, 115, 116, 97, 108, 101]) = false) (h12 : (L.toList == [109, 105, 110, 45, 102, 114, 101, 115, 104]) = false) :
    Calls Tryz.prog 57 #[.agg (dArr d), .string x] w fun e w' => e = .returned (.agg (dArr (stepD d x))) ∧ Ext w w' := by
  have Hk := Lib.hid (show stepD d x = stepK d 13 0 0 2147483647 by unfold stepD; rw [hL.out, kind_13 h0 h1 h2 h3 h4 h5 h6 h7 h8 h9 h10 h11 h12, hth.out, timeK_bad 0 0 hok.out, timeK_bad 0 2147483647 hok.out, timeK_bad 2147483647 2147483647 hok.out])
  have hA : Blk ((w.alloc (.cells (dArr d) 48)).alloc (.cells #[.bool false, .bool false, .bool false, .bool false, .bool false, .bool false, .int .i64 0, .int .i64 0, .int .i64 0, .int .i64 0, .int .i64 0, .int .i64 0] 48)) w.heap.size 48 (dArr d) := (Blk.new w _ _).alloc _
  have hB : Blk ((w.alloc (.cells (dArr d) 48)).alloc (.cells #[.bool false, .bool false, .bool false, .bool false, .bool false, .bool false, .int .i64 0, .int .i64 0, .int .i64 0, .int .i64 0, .int .i64 0, .int .i64 0] 48)) (w.heap.size + 1) 48 #[.bool false, .bool false, .bool false, .bool false, .bool false, .bool false, .int .i64 0, .int .i64 0, .int .i64 0, .int .i64 0, .int .i64 0, .int .i64 0] := by have := Blk.new (w.alloc (.cells (dArr d) 48)) 48 #[.bool false, .bool false, .bool false, .bool false, .bool false, .bool false, .int .i64 0, .int .i64 0, .int .i64 0, .int .i64 0, .int .i64 0, .int .i64 0]; rwa [World.size_alloc] at this
  have hE : Ext w ((w.alloc (.cells (dArr d) 48)).alloc (.cells #[.bool false, .bool false, .bool false, .bool false, .bool false, .bool false, .int .i64 0, .int .i64 0, .int .i64 0, .int .i64 0, .int .i64 0, .int .i64 0] 48)) := ((Ext.refl w).alloc _).alloc _
  have HA0 := Lib.hid hA; have HB0 := Lib.hid hB; have HE0 := Lib.hid hE; clear hA hB hE
  go_enter Tryz.func57, Tryz.ntmps57
  go_wp2_with fail
  generalize (w.alloc (.cells (dArr d) 48)).alloc (.cells #[.bool false, .bool false, .bool false, .bool false, .bool false, .bool false, .int .i64 0, .int .i64 0, .int .i64 0, .int .i64 0, .int .i64 0, .int .i64 0] 48) = W0 at *
  go_loop [5] (fun i => ∃ k : Nat, k ≤ x.size ∧ i = .int .i64 k ∧ ∀ j (hj : j < x.size), j < k → ¬ (x[j].toNat : Int) = 61) (fun i => x.size - (intOf i).toNat)
  case atStart => exact ⟨0, Nat.zero_le _, rfl, fun j _ h => absurd h (Nat.not_lt_zero _)⟩
  case round =>
    obtain ⟨k, hk, rfl, hall⟩ := hrel
    have Hall := Lib.hid hall; clear hall
    by_cases hlt : k < x.size
    · by_cases h61 : (x[k].toNat : Int) = 61
      · have Hnm := Lib.hid (name_at hk Hall.out (.inr ⟨hlt, h61⟩))
        have hne : ((x[k].toNat : Int) != 61) = false := by simp [h61]
        go_wp2_with fail
        refine (ref_Lower _ _ (by rw [ByteArray.size_extract]; omega)).mono ?_; rintro e w1 ⟨rfl, hb1⟩
        rw [← Hnm.out.1, hL.out]
        go_wp2_with fail
        refine (ref_number _ _ (by rw [ByteArray.size_extract]; omega)).mono ?_; rintro e w3 ⟨rfl, hb3⟩
        rw [← Hnm.out.2.2 hlt, hok.out]
        have HA := Lib.hid ((HA0.out.ext hb1).ext hb3)
        have HB := Lib.hid ((HB0.out.ext hb1).ext hb3)
        have HE := Lib.hid ((HE0.out.trans hb1).trans hb3)
        go_wp2_with (first
          | (refine wpList_loadB rfl 48 (.tmp 2) rfl w.heap.size rfl 48 _ (HA.out) _ Tryz.underlying48 infoD ?_)
          | (refine wpList_storeB rfl 48 (.tmp 4) (.tmp 107) rfl rfl (w.heap.size + 1) _ rfl rfl 48 _ (HB.out) infoD rfl (dArr_one d) ?_; intro w9 hB9 hx9))
        exact bodyPost_ret (v := .agg (dArr d)) (results_cell_row rfl _ _ (w.heap.size + 1) 48 _ (0, 0) _ rfl hB9 Tryz.underlying48 rfl infoD) rfl ⟨congrArg (fun z => Ending.returned (.agg (dArr z))) Hk.out.symm, (HE.out).growB hx9 (by omega)⟩
      · have Hst := Lib.hid (at_step Hall.out hlt h61)
        have hne : ((x[k].toNat : Int) != 61) = true := by simp [h61]
        go_wp2_with fail
        go_round
        case rel => exact ⟨k + 1, by omega, by go_num, Hst.out⟩
        case measure => simp [intOf]; omega
    · have Hnm := Lib.hid (name_at hk Hall.out (.inl (by omega)))
      exact absurd (hth.out.symm.trans Hnm.out.2.1) (by simp [hlt])
theorem ref_with (d : D) (x : ByteArray) (w : World) (hs : x.size ≤ 1048576) :
    Calls Tryz.prog 57 #[.agg (dArr d), .string x] w fun e w' => e = .returned (.agg (dArr (stepD d x))) ∧ Ext w w' := by
  have hL : Hid (lowS (eqName x) = lowS (eqName x)) := Lib.hid rfl
  cases h0 : ((lowS (eqName x)).toList == [110, 111, 45, 115, 116, 111, 114, 101])
  rotate_left
  · cases hth : thE x
    · exact with_0_0 d x _ w hs (Lib.hid hth) hL h0
    · cases hok : okQ (argE x)
      · exact with_2_0 d x _ w hs (Lib.hid hth) (Lib.hid hok) hL h0
      · exact with_1_0 d x _ w hs (Lib.hid hth) (Lib.hid hok) hL h0
  cases h1 : ((lowS (eqName x)).toList == [110, 111, 45, 99, 97, 99, 104, 101])
  rotate_left
  · cases hth : thE x
    · exact with_0_1 d x _ w hs (Lib.hid hth) hL h0 h1
    · cases hok : okQ (argE x)
      · exact with_2_1 d x _ w hs (Lib.hid hth) (Lib.hid hok) hL h0 h1
      · exact with_1_1 d x _ w hs (Lib.hid hth) (Lib.hid hok) hL h0 h1
  cases h2 : ((lowS (eqName x)).toList == [112, 114, 105, 118, 97, 116, 101])
  rotate_left
  · cases hth : thE x
    · exact with_0_2 d x _ w hs (Lib.hid hth) hL h0 h1 h2
    · cases hok : okQ (argE x)
      · exact with_2_2 d x _ w hs (Lib.hid hth) (Lib.hid hok) hL h0 h1 h2
      · exact with_1_2 d x _ w hs (Lib.hid hth) (Lib.hid hok) hL h0 h1 h2
  cases h3 : ((lowS (eqName x)).toList == [112, 117, 98, 108, 105, 99])
  rotate_left
  · cases hth : thE x
    · exact with_0_3 d x _ w hs (Lib.hid hth) hL h0 h1 h2 h3
    · cases hok : okQ (argE x)
      · exact with_2_3 d x _ w hs (Lib.hid hth) (Lib.hid hok) hL h0 h1 h2 h3
      · exact with_1_3 d x _ w hs (Lib.hid hth) (Lib.hid hok) hL h0 h1 h2 h3
  cases h4 : ((lowS (eqName x)).toList == [109, 117, 115, 116, 45, 114, 101, 118, 97, 108, 105, 100, 97, 116, 101])
  rotate_left
  · cases hth : thE x
    · exact with_0_4 d x _ w hs (Lib.hid hth) hL h0 h1 h2 h3 h4
    · cases hok : okQ (argE x)
      · exact with_2_4 d x _ w hs (Lib.hid hth) (Lib.hid hok) hL h0 h1 h2 h3 h4
      · exact with_1_4 d x _ w hs (Lib.hid hth) (Lib.hid hok) hL h0 h1 h2 h3 h4
  cases h5 : ((lowS (eqName x)).toList == [112, 114, 111, 120, 121, 45, 114, 101, 118, 97, 108, 105, 100, 97, 116, 101])
  rotate_left
  · cases hth : thE x
    · exact with_0_5 d x _ w hs (Lib.hid hth) hL h0 h1 h2 h3 h4 h5
    · cases hok : okQ (argE x)
      · exact with_2_5 d x _ w hs (Lib.hid hth) (Lib.hid hok) hL h0 h1 h2 h3 h4 h5
      · exact with_1_5 d x _ w hs (Lib.hid hth) (Lib.hid hok) hL h0 h1 h2 h3 h4 h5
  cases h6 : ((lowS (eqName x)).toList == [111, 110, 108, 121, 45, 105, 102, 45, 99, 97, 99, 104, 101, 100])
  rotate_left
  · cases hth : thE x
    · exact with_0_6 d x _ w hs (Lib.hid hth) hL h0 h1 h2 h3 h4 h5 h6
    · cases hok : okQ (argE x)
      · exact with_2_6 d x _ w hs (Lib.hid hth) (Lib.hid hok) hL h0 h1 h2 h3 h4 h5 h6
      · exact with_1_6 d x _ w hs (Lib.hid hth) (Lib.hid hok) hL h0 h1 h2 h3 h4 h5 h6
  cases h7 : ((lowS (eqName x)).toList == [109, 97, 120, 45, 97, 103, 101])
  rotate_left
  · cases hth : thE x
    · exact with_0_7 d x _ w hs (Lib.hid hth) hL h0 h1 h2 h3 h4 h5 h6 h7
    · cases hok : okQ (argE x)
      · exact with_2_7 d x _ w hs (Lib.hid hth) (Lib.hid hok) hL h0 h1 h2 h3 h4 h5 h6 h7
      · exact with_1_7 d x _ w hs (Lib.hid hth) (Lib.hid hok) hL h0 h1 h2 h3 h4 h5 h6 h7
  cases h8 : ((lowS (eqName x)).toList == [115, 45, 109, 97, 120, 97, 103, 101])
  rotate_left
  · cases hth : thE x
    · exact with_0_8 d x _ w hs (Lib.hid hth) hL h0 h1 h2 h3 h4 h5 h6 h7 h8
    · cases hok : okQ (argE x)
      · exact with_2_8 d x _ w hs (Lib.hid hth) (Lib.hid hok) hL h0 h1 h2 h3 h4 h5 h6 h7 h8
      · exact with_1_8 d x _ w hs (Lib.hid hth) (Lib.hid hok) hL h0 h1 h2 h3 h4 h5 h6 h7 h8
  cases h9 : ((lowS (eqName x)).toList == [115, 116, 97, 108, 101, 45, 119, 104, 105, 108, 101, 45, 114, 101, 118, 97, 108, 105, 100, 97, 116, 101])
  rotate_left
  · cases hth : thE x
    · exact with_0_9 d x _ w hs (Lib.hid hth) hL h0 h1 h2 h3 h4 h5 h6 h7 h8 h9
    · cases hok : okQ (argE x)
      · exact with_2_9 d x _ w hs (Lib.hid hth) (Lib.hid hok) hL h0 h1 h2 h3 h4 h5 h6 h7 h8 h9
      · exact with_1_9 d x _ w hs (Lib.hid hth) (Lib.hid hok) hL h0 h1 h2 h3 h4 h5 h6 h7 h8 h9
  cases h10 : ((lowS (eqName x)).toList == [115, 116, 97, 108, 101, 45, 105, 102, 45, 101, 114, 114, 111, 114])
  rotate_left
  · cases hth : thE x
    · exact with_0_10 d x _ w hs (Lib.hid hth) hL h0 h1 h2 h3 h4 h5 h6 h7 h8 h9 h10
    · cases hok : okQ (argE x)
      · exact with_2_10 d x _ w hs (Lib.hid hth) (Lib.hid hok) hL h0 h1 h2 h3 h4 h5 h6 h7 h8 h9 h10
      · exact with_1_10 d x _ w hs (Lib.hid hth) (Lib.hid hok) hL h0 h1 h2 h3 h4 h5 h6 h7 h8 h9 h10
  cases h11 : ((lowS (eqName x)).toList == [109, 97, 120, 45, 115, 116, 97, 108, 101])
  rotate_left
  · cases hth : thE x
    · exact with_0_11 d x _ w hs (Lib.hid hth) hL h0 h1 h2 h3 h4 h5 h6 h7 h8 h9 h10 h11
    · cases hok : okQ (argE x)
      · exact with_2_11 d x _ w hs (Lib.hid hth) (Lib.hid hok) hL h0 h1 h2 h3 h4 h5 h6 h7 h8 h9 h10 h11
      · exact with_1_11 d x _ w hs (Lib.hid hth) (Lib.hid hok) hL h0 h1 h2 h3 h4 h5 h6 h7 h8 h9 h10 h11
  cases h12 : ((lowS (eqName x)).toList == [109, 105, 110, 45, 102, 114, 101, 115, 104])
  rotate_left
  · cases hth : thE x
    · exact with_0_12 d x _ w hs (Lib.hid hth) hL h0 h1 h2 h3 h4 h5 h6 h7 h8 h9 h10 h11 h12
    · cases hok : okQ (argE x)
      · exact with_2_12 d x _ w hs (Lib.hid hth) (Lib.hid hok) hL h0 h1 h2 h3 h4 h5 h6 h7 h8 h9 h10 h11 h12
      · exact with_1_12 d x _ w hs (Lib.hid hth) (Lib.hid hok) hL h0 h1 h2 h3 h4 h5 h6 h7 h8 h9 h10 h11 h12
  cases hth : thE x
  · exact with_0_13 d x _ w hs (Lib.hid hth) hL h0 h1 h2 h3 h4 h5 h6 h7 h8 h9 h10 h11 h12
  · cases hok : okQ (argE x)
    · exact with_2_13 d x _ w hs (Lib.hid hth) (Lib.hid hok) hL h0 h1 h2 h3 h4 h5 h6 h7 h8 h9 h10 h11 h12
    · exact with_1_13 d x _ w hs (Lib.hid hth) (Lib.hid hok) hL h0 h1 h2 h3 h4 h5 h6 h7 h8 h9 h10 h11 h12
end Go.Proofs.YtphgaommokgfcaaGreatDoor
