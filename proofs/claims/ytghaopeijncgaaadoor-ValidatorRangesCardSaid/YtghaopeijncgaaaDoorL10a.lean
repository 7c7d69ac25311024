
/- The walks of ValidatorReads, ValidatorLists, ValidatorTags: each returns true. -/
import Derived.Test.YtghaopeijncgaaaDoorMatch
import Derived.Deep.RegionHeld3
namespace Go.Proofs.YtghaopeijncgaaaDoor
open Go.RowKit

set_option maxHeartbeats 2000000 in
set_option maxRecDepth 100000 in
theorem reads_walk (s : ByteArray) (w : World) (hs : s.size ≤ 140737488351232) :
    Calls Tryd.prog 3 #[.string s] w fun e w' => e = .returned (.bool true) ∧ Ext w w' := by
  go_enter Tryd.func3, Tryd.ntmps3
  go_wp2_with fail
  refine (law_awake _).mono ?_; rintro e w1 ⟨rfl, hb1⟩
  by_cases hl : s.size ≤ 1000
  · go_wp2_with fail
    refine (val_ReadTag s _ (by omega)).mono ?_; rintro e w2 ⟨rfl, hb2⟩
    cases ht : tagS s with
    | none =>
      rw [show tagV none = .agg #[.bool false, .string ⟨#[]⟩] from rfl, show errV (tagE none) = .iface 34 (.int .i64 2) from rfl]
      go_wp2_with fail
      refine (ref_Read s _ (by omega)).mono ?_; rintro e w3 ⟨rfl, hb3⟩
      rw [ht]
      rw [show tagV none = .agg #[.bool false, .string ⟨#[]⟩] from rfl, show (none : Option Tg).isSome = false from rfl]
      have hc0 : (w2.alloc (.cells #[.bool false, .string ⟨#[]⟩] 24)).cell? ⟨w2.heap.size, 0, none⟩ = some (.bool false) := by rw [World.cell?_alloc_mark]; rfl
      have hc1 : (w2.alloc (.cells #[.bool false, .string ⟨#[]⟩] 24)).cell? ⟨w2.heap.size, 1, none⟩ = some (.string ⟨#[]⟩) := by rw [World.cell?_alloc_mark]; rfl
      have hd0 := hb3.cell hc0
      have hd1 := hb3.cell hc1
      have hz : w2.heap.size < w3.heap.size := World.block_lt_of_cell? _ _ hd0
      clear hc0 hc1 ht
      go_wp2_with fail
      refine (law_same false ⟨#[]⟩ _).mono ?_; rintro e w4 ⟨rfl, hb4⟩
      go_wp2_with fail
      refine (base_Is 2 2 (by decide) (by decide) (by decide) _).mono ?_; rintro e w5 ⟨rfl, hb5⟩
      go_wp2_with fail
      go_ret
      exact ⟨rfl, (((((hb1.trans hb2).alloc _).trans hb3).alloc _).trans hb4).trans hb5⟩
    | some t =>
      obtain ⟨tw, tt⟩ := t
      rw [show tagV (some (tw, tt)) = .agg #[.bool tw, .string tt] from rfl, show errV (tagE (some (tw, tt))) = .nilIface from rfl]
      go_wp2_with fail
      refine (ref_Read s _ (by omega)).mono ?_; rintro e w3 ⟨rfl, hb3⟩
      rw [ht]
      rw [show tagV (some (tw, tt)) = .agg #[.bool tw, .string tt] from rfl, show (some (tw, tt)).isSome = true from rfl]
      have hc0 : (w2.alloc (.cells #[.bool tw, .string tt] 24)).cell? ⟨w2.heap.size, 0, none⟩ = some (.bool tw) := by rw [World.cell?_alloc_mark]; rfl
      have hc1 : (w2.alloc (.cells #[.bool tw, .string tt] 24)).cell? ⟨w2.heap.size, 1, none⟩ = some (.string tt) := by rw [World.cell?_alloc_mark]; rfl
      have hd0 := hb3.cell hc0
      have hd1 := hb3.cell hc1
      have hz : w2.heap.size < w3.heap.size := World.block_lt_of_cell? _ _ hd0
      clear hc0 hc1 ht
      go_wp2_with fail
      refine (law_same tw tt _).mono ?_; rintro e w4 ⟨rfl, hb4⟩
      go_wp2_with fail
      go_ret
      exact ⟨rfl, ((((hb1.trans hb2).alloc _).trans hb3).alloc _).trans hb4⟩
  · go_wp2_with fail
    refine (law_awake _).mono ?_; rintro e w2 ⟨rfl, hb2⟩
    go_wp2_with fail
    go_ret
    exact ⟨rfl, hb1.trans hb2⟩

/-- What is written is read back. -/
theorem wr_size {tw : Bool} {tt W : ByteArray} (h : wrO tw tt = some W) : W.size ≤ tt.size + 4 := by
  unfold wrO at h
  split at h
  · injection h with h
    subst h
    unfold wrS
    rw [ByteArray.size_append, ByteArray.size_append, show qS.size = 1 from rfl]
    have : (if tw = true then wqS else qS).size ≤ 3 := by cases tw <;> decide
    omega
  · cases h
theorem wr_back {tw : Bool} {tt W : ByteArray} (h : wrO tw tt = some W) : tagS W = some (tw, tt) := by
  unfold wrO at h
  split at h
  · rename_i hr
    injection h with h
    subst h
    have hq : ∀ t : ByteArray, rightS t = true → txtS (qS ++ t ++ qS) = some t := by
      intro t ht
      have hsz : (qS ++ t ++ qS).size = t.size + 2 := by
        rw [ByteArray.size_append, ByteArray.size_append, show qS.size = 1 from rfl]; omega
      have hl : (qS ++ t ++ qS).data.toList = 34 :: (t.data.toList ++ [34]) := by
        rw [data_append, data_append]; rfl
      have hx : (qS ++ t ++ qS).extract 1 ((qS ++ t ++ qS).size - 1) = t := by
        apply bytes_ext
        rw [← ByteArray.toList_eq, Lib.extract_toList, hl, hsz]
        rw [List.drop_succ_cons, List.drop_zero, show t.size + 2 - 1 - 1 = t.data.toList.length by simp]
        exact List.take_left
      rw [txt_at (by omega), if_pos, hx]
      refine ⟨?_, ?_, by rw [hx]; exact ht⟩
      · have h1 : (qS ++ t ++ qS).data.toList[0]'(by rw [hl]; simp) = 34 := by simp only [hl]; rfl
        exact h1
      · have h1 : (qS ++ t ++ qS).data.toList[(qS ++ t ++ qS).size - 1]'(by rw [hl, hsz]; simp only [List.length_cons, List.length_append, List.length_nil, Array.length_toList]; show t.size + 2 - 1 < t.size + (0 + 1) + 1; omega) = 34 := by
          simp only [hl, hsz]
          have : t.size = t.data.toList.length := by simp
          simp only [this]
          simp
        exact h1
    unfold tagS
    cases tw
    · have hw : wkR (wrS false tt) = qS ++ tt ++ qS ∧ wkP (wrS false tt) = false := by
        have hl : (wrS false tt).data.toList = 34 :: (tt.data.toList ++ [34]) := by unfold wrS; rw [data_append, data_append]; rfl
        have hp : Lib.hasPrefix (34 :: (tt.data.toList ++ [34])) [87, 47] = false := by simp [Lib.hasPrefix, List.isPrefixOf]
        unfold wkR wkP Lib.trimPrefix
        rw [hl, hp]
        exact ⟨bytes_ext (by rw [data_append, data_append]; rfl), rfl⟩
      rw [hw.1, hw.2, hq tt hr]; rfl
    · have hw : wkR (wrS true tt) = qS ++ tt ++ qS ∧ wkP (wrS true tt) = true := by
        have hl : (wrS true tt).data.toList = 87 :: 47 :: 34 :: (tt.data.toList ++ [34]) := by unfold wrS; rw [data_append, data_append]; rfl
        have hp : Lib.hasPrefix (87 :: 47 :: 34 :: (tt.data.toList ++ [34])) [87, 47] = true := by simp [Lib.hasPrefix, List.isPrefixOf]
        unfold wkR wkP Lib.trimPrefix
        rw [hl, hp]
        exact ⟨bytes_ext (by rw [data_append, data_append]; rfl), rfl⟩
      rw [hw.1, hw.2, hq tt hr]; rfl
  · cases h

set_option maxHeartbeats 2000000 in
set_option maxRecDepth 100000 in
theorem tags_walk (tw : Bool) (tt : ByteArray) (w : World) (hs : tt.size ≤ 9223372036854775807) :
    Calls Tryd.prog 6 #[.agg #[.bool tw, .string tt]] w fun e w' => e = .returned (.bool true) ∧ Ext w w' := by
  go_enter Tryd.func6, Tryd.ntmps6
  go_wp2_with fail
  refine (law_awake _).mono ?_; rintro e w1 ⟨rfl, hb1⟩
  have hA0 : (w.alloc (.cells #[.bool tw, .string tt] 29)).cell? ⟨w.heap.size, 0, none⟩ = some (.bool tw) := by rw [World.cell?_alloc_mark]; rfl
  have hA1 : (w.alloc (.cells #[.bool tw, .string tt] 29)).cell? ⟨w.heap.size, 1, none⟩ = some (.string tt) := by rw [World.cell?_alloc_mark]; rfl
  have hb01 := ((Ext.refl w).alloc (.cells #[.bool tw, .string tt] 29)).trans hb1
  have g0 := hb1.cell hA0
  have g1 := hb1.cell hA1
  clear hA0 hA1
  have hz1 : w.heap.size < w1.heap.size := World.block_lt_of_cell? _ _ g0
  by_cases hl : tt.size ≤ 1000
  · go_wp2_with fail
    refine (law_tag tw tt _).mono ?_; rintro e w2 ⟨rfl, hb2⟩
    have g2 := hb2.cell g0
    have g3 := hb2.cell g1
    go_wp2_with fail
    refine (val_WriteTag tw tt _ (by omega)).mono ?_; rintro e w3 ⟨rfl, hb3⟩
    have g4 := hb3.cell g2
    have g5 := hb3.cell g3
    have hb03 := (hb01.trans hb2).trans hb3
    cases hr : wrO tw tt with
    | none =>
      rw [show (none : Option ByteArray).getD ⟨#[]⟩ = ⟨#[]⟩ from rfl, show errV (wrE none) = .iface 34 (.int .i64 2) from rfl]
      go_wp2_with fail
      refine (ref_Write tw tt _ (by omega)).mono ?_; rintro e w4 ⟨rfl, hb4⟩
      rw [hr]
      rw [show (none : Option ByteArray).getD ⟨#[]⟩ = ⟨#[]⟩ from rfl, show (none : Option ByteArray).isSome = false from rfl]
      clear hr
      go_wp2_with fail
      refine (base_Is 2 2 (by decide) (by decide) (by decide) _).mono ?_; rintro e w5 ⟨rfl, hb5⟩
      go_wp2_with fail
      go_ret
      exact ⟨rfl, (hb03.trans hb4).trans hb5⟩
    | some W =>
      have HW := Lib.hid (wr_back hr)
      have hws : W.size ≤ 1048576 := by have := wr_size hr; omega
      rw [show (some W).getD ⟨#[]⟩ = W from rfl, show errV (wrE (some W)) = .nilIface from rfl]
      go_wp2_with fail
      refine (ref_Write tw tt _ (by omega)).mono ?_; rintro e w4 ⟨rfl, hb4⟩
      have g6 := hb4.cell g4
      have g7 := hb4.cell g5
      rw [hr]
      rw [show (some W).getD ⟨#[]⟩ = W from rfl, show (some W).isSome = true from rfl]
      clear hr
      have hWW : (W.toList == W.toList) = true := eqS_iff.2 rfl
      go_wp2_with fail
      refine (val_ReadTag W _ hws).mono ?_; rintro e w5 ⟨rfl, hb5⟩
      have g8 := hb5.cell g6
      have g9 := hb5.cell g7
      rw [HW.out]
      rw [show tagV (some (tw, tt)) = .agg #[.bool tw, .string tt] from rfl, show errV (tagE (some (tw, tt))) = .nilIface from rfl]
      have hz5 : w.heap.size < w5.heap.size := World.block_lt_of_cell? _ _ g8
      go_wp2_with fail
      refine (law_same tw tt _).mono ?_; rintro e w6 ⟨rfl, hb6⟩
      go_wp2_with fail
      go_ret
      exact ⟨rfl, (((hb03.trans hb4).trans hb5).alloc _).trans hb6⟩
  · go_wp2_with fail
    refine (law_awake _).mono ?_; rintro e w2 ⟨rfl, hb2⟩
    go_wp2_with fail
    go_ret
    exact ⟨rfl, hb01.trans hb2⟩
end Go.Proofs.YtghaopeijncgaaaDoor
