
/- The walks of awake and of DirectiveParses: it returns true. -/
import Derived.Test.YtaebbnadmfbdjaaDoorL11a
import Derived.KernelRfl
set_option linter.unusedSimpArgs false
set_option linter.unusedVariables false
namespace Go.Proofs.YtaebbnadmfbdjaaDoor
open Go.RowKit

def awV : ByteArray := ⟨#[109, 97, 120, 45, 97, 103, 101, 61, 54, 48, 44, 32, 80, 117, 98, 108, 105, 99]⟩
theorem aw_dir : dirS [awV] = ⟨false, false, false, true, false, false, 60, -1, -1, -1, -1, -1⟩ := by kernel_rfl

set_option maxHeartbeats 1000000 in
set_option maxRecDepth 100000 in
theorem law_awake (w : World) (hg : Gl w) : Calls Tryd.prog 12 #[] w fun e w' => e = .returned (.bool true) ∧ Ext w w' := by
  have hr0 := Lib.hid (Rd.one w (.string awV) 9 rfl)
  have hb0 := (Ext.refl w).alloc (.cells #[.string awV] 9)
  go_enter Tryd.func12, Tryd.ntmps12
  go_wp2_with fail
  refine (law_Fields _ 1 1 [awV] _ hr0.out (by decide)).mono ?_; rintro e w1 ⟨A1, c1, rfl, hf1, hc1, hb1⟩
  have hbw1 := hb0.trans hb1
  have hg1 := hg.ext hbw1
  go_wp2_with fail
  refine (dir_Parse _ _ _ _ _ hf1 (by decide) (bsz_flds (by decide +kernel) (by decide)) hg1).mono ?_; rintro e w2 ⟨rfl, hb2⟩
  rw [all_flds, aw_dir]
  have hbw2 := hbw1.trans hb2
  go_wp2_with (first
    | (refine wpList_storeB rfl 28 (.tmp 1) (.tmp 4) rfl rfl w2.heap.size _ rfl rfl 28 _ (Blk.new w2 _ _) infoDp rfl (dArr_one _) ?_; intro w3 hB3 hx3; have h6 := hB3.cell 6; have h3 := hB3.cell 3; have h0 := hB3.cell 0; simp only [dArr] at h6 h3 h0))
  go_ret
  exact ⟨rfl, (hbw2.alloc _).growB hx3 hbw2.size⟩

set_option maxHeartbeats 1000000 in
set_option maxRecDepth 100000 in
theorem parses_walk (A : Option Addr) (n c : Nat) (ss : List ByteArray) (w : World) (hr : RdS w A n ss) (hb : ss.length + totS ss ≤ 1048576) (hg : Gl w) :
    Calls Tryd.prog 3 #[.slice A n c] w fun e w' => e = .returned (.bool true) ∧ Ext w w' := by
  have hl := hr.lenS
  have Hl := Lib.hid hl; clear hl
  have hn : n ≤ 1048576 := by have := Hl.out; omega
  have hv : ∀ v ∈ ss, v.size ≤ 1048576 := fun v h => by have := totS_mem h; omega
  have Hv := Lib.hid hv; clear hv
  have Heq := eqlR
  go_enter Tryd.func3, Tryd.ntmps3
  go_wp2_with fail
  refine (law_large A n c ss _ hr hb).mono ?_; rintro e w1 ⟨rfl, hb1⟩
  cases hlg : lgS ss
  · go_wp2_with fail
    refine (law_awake _ (hg.ext hb1)).mono ?_; rintro e w2 ⟨rfl, hb2⟩
    have hbw2 := hb1.trans hb2
    have hg2 := hg.ext hbw2
    go_wp2_with fail
    refine (law_Fields A n c ss _ (hr.ext hbw2) hn).mono ?_; rintro e w3 ⟨A3, c3, rfl, hf3, hc3, hb3⟩
    have hbw3 := hbw2.trans hb3
    go_wp2_with fail
    refine (dir_Parse _ _ _ _ _ hf3 (by omega) (bsz_flds Hv.out (by decide)) (hg.ext hbw3)).mono ?_; rintro e w4 ⟨rfl, hb4⟩
    rw [all_flds]
    have hbw4 := hbw3.trans hb4
    go_wp2_with fail
    refine (law_Plain _ _).mono ?_; rintro e w5 ⟨rfl, hb5⟩
    have hbw5 := hbw4.trans hb5
    go_wp2_with fail
    refine (ref_Parse A n c ss _ (hr.ext hbw5) (by omega) Hv.out).mono ?_; rintro e w6 ⟨rfl, hb6⟩
    have hbw6 := hbw5.trans hb6
    generalize dirS ss = DS at *
    go_wp2_with fail
    refine (dir_Parse none 0 0 [] _ (Rd.none_ _ _ _) (by decide) (fun f hf => by cases hf) (hg.ext hbw6)).mono ?_; rintro e w7 ⟨rfl, hb7⟩
    have hbw7 := hbw6.trans hb7
    rw [show dirS (allS [] ccN) = noneD from rfl]
    go_wp2_with fail
    refine (law_Plain _ _).mono ?_; rintro e w8 ⟨rfl, hb8⟩
    have hbw8 := hbw7.trans hb8
    go_wp2_with fail
    refine (ref_None _).mono ?_; rintro e w9 ⟨rfl, hb9⟩
    have hbw9 := hbw8.trans hb9
    go_wp2_with fail
    refine (dir_None _).mono ?_; rintro e w10 ⟨rfl, hb10⟩
    have hbw10 := hbw9.trans hb10
    go_wp2_with fail
    refine (law_Plain _ _).mono ?_; rintro e w11 ⟨rfl, hb11⟩
    have hbw11 := hbw10.trans hb11
    go_wp2_with fail
    refine (ref_None _).mono ?_; rintro e w12 ⟨rfl, hb12⟩
    have hbw12 := hbw11.trans hb12
    go_wp2_with fail
    go_ret
    exact ⟨rfl, hbw12⟩
  · go_wp2_with fail
    refine (law_large A n c ss _ (hr.ext hb1) hb).mono ?_; rintro e w2 ⟨rfl, hb2⟩
    go_wp2_with fail
    go_ret
    exact ⟨rfl, hb1.trans hb2⟩
end Go.Proofs.YtaebbnadmfbdjaaDoor
