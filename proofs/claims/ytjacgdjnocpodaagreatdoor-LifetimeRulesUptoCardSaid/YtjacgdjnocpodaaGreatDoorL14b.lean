
/- The walks of quaysideref14.Directives and Allowance; of LifetimeAllowances. -/
import Derived.Test.YtjacgdjnocpodaaGreatDoorL14a
namespace Go.Proofs.YtjacgdjnocpodaaGreatDoor
open Go.RowKit

set_option maxHeartbeats 4000000 in
set_option maxRecDepth 100000 in
theorem ref_Directives (A : Option Addr) (n c : Nat) (fs : List Fd) (w : World) (hf : RdF w A n fs) (hn : n ≤ 1073741824) (hsz : Bsz 1048576 fs) :
    Calls Tryz.prog 16 #[.slice A n c] w fun e w' => e = .returned (.agg (dArr (ccD fs))) ∧ Ext w w' := by
  have HA := Lib.hid (fun w' (h : Ext w w') => ref_All A n c fs ccN w' (hf.ext h) hn (by decide) (fun f hf => Nat.le_trans (hsz f hf).1 (by decide)))
  have Hv := Lib.hid (bsz_vals (name := ccN) hsz)
  have hln : (allS fs ccN).length ≤ n := by
    have := allS_len fs ccN n
    rw [List.take_of_length_le (by rw [hf.lenF]; exact Nat.le_refl _)] at this
    exact this
  have Hln := Lib.hid hln; clear hln
  have Hc := Lib.hid (show ccD fs = dirS (allS fs ccN) from rfl)
  generalize ccD fs = D at *
  generalize allS fs ccN = L at *
  have HB0 := Lib.hid (Blk.new w 43 (dArr zeroD))
  go_enter Tryz.func16, Tryz.ntmps16
  go_wp2_with fail
  refine (HA.out _ ((Ext.refl w).alloc _)).mono ?_; rintro e w1 ⟨A1, n1, c1, rfl, hr1, hc1, hb1⟩
  have h1 := ((Ext.refl w).alloc (.cells (dArr zeroD) 43)).trans hb1
  have HB1 := Lib.hid (HB0.out.ext hb1)
  have hn1 : n1 ≤ 1073741824 := by have := hr1.lenS; have := Hln.out; omega
  go_wp2_with fail
  refine (ref_Parse A1 n1 c1 L _ hr1 hn1 Hv.out).mono ?_; rintro e w2 ⟨rfl, hb2⟩
  rw [← Hc.out]
  have HB2 := Lib.hid (HB1.out.ext hb2)
  go_wp2_with (first | (refine wpList_storeB rfl 43 (.tmp 2) (.tmp 5) rfl rfl w.heap.size _ rfl rfl 43 _ HB2.out infoD rfl (dArr_one D) ?_; intro w9 hB9 hx9))
  exact bodyPost_ret (v := .agg (dArr D)) (results_cell_row rfl _ _ w.heap.size 43 _ (0, 0) _ rfl hB9 Tryz.underlying43 rfl infoD) rfl ⟨rfl, (h1.trans hb2).growB hx9 (Nat.le_refl _)⟩

end Go.Proofs.YtjacgdjnocpodaaGreatDoor
