
/- The walk of the law package's awake. -/
import Derived.Test.YtafmedphgmacaaaDoorL11a
import Derived.KernelRfl
namespace Go.Proofs.YtafmedphgmacaaaDoor
open Go.RowKit

def awV : ByteArray := ⟨#[109, 97, 120, 45, 97, 103, 101, 61, 54, 48, 44, 32, 80, 117, 98, 108, 105, 99]⟩
theorem aw_dir : dirS [awV] = ⟨false, false, false, true, false, false, 60, -1, -1, -1, -1, -1⟩ := by kernel_rfl

set_option maxHeartbeats 1000000 in
set_option maxRecDepth 100000 in
theorem law_awake (w : World) (hg : Gl w) : Calls Tryd.prog 7 #[] w fun e w' => e = .returned (.bool true) ∧ Ext w w' := by
  have hr0 := Lib.hid (Rd.one w (.string awV) 9 rfl)
  have hb0 := (Ext.refl w).alloc (.cells #[.string awV] 9)
  go_enter Tryd.func7, Tryd.ntmps7
  go_wp2_with fail
  refine (law_Fields _ 1 1 [awV] _ hr0.out (by decide)).mono ?_; rintro e w1 ⟨A1, c1, rfl, hf1, hc1, hb1⟩
  have hbw1 := hb0.trans hb1
  have hg1 := hg.ext hbw1
  go_wp2_with fail
  refine (dir_Parse _ _ _ _ _ hf1 (by decide) (bsz_flds (by decide +kernel) (by decide)) hg1).mono ?_; rintro e w2 ⟨rfl, hb2⟩
  rw [all_flds, aw_dir]
  have hbw2 := hbw1.trans hb2
  go_wp2_with (first
    | (refine wpList_storeB rfl 26 (.tmp 1) (.tmp 4) rfl rfl w2.heap.size _ rfl rfl 26 _ (Blk.new w2 _ _) infoDp rfl (dArr_one _) ?_; intro w3 hB3 hx3; have h6 := hB3.cell 6; have h3 := hB3.cell 3; have h0 := hB3.cell 0; simp only [dArr] at h6 h3 h0))
  go_ret
  exact ⟨rfl, (hbw2.alloc _).growB hx3 hbw2.size⟩

end Go.Proofs.YtafmedphgmacaaaDoor
