
/- The walks of quaysideref14.Directives and Allowance; of LifetimeAllowances. -/
import Derived.Test.YtjacgdjnocpodaaDoorL14a
namespace Go.Proofs.YtjacgdjnocpodaaDoor
open Go.RowKit

set_option maxHeartbeats 4000000 in
set_option maxRecDepth 100000 in
theorem ref_Directives (A : Option Addr) (n c : Nat) (fs : List Fd) (w : World) (hf : RdF w A n fs) (hn : n ≤ 1073741824) (hsz : Bsz 1048576 fs) :
    Calls Tryd.prog 24 #[.slice A n c] w fun e w' => e = .returned (.agg (dArr (ccD fs))) ∧ Ext w w' := by
  have HA := Lib.hid (fun w' (h : Ext w w') => ref_All A n c fs ccN w' (hf.ext h) hn (by decide) (fun f hf => Nat.le_trans (hsz f hf).1 (by decide)))
  have Hv := Lib.hid (bsz_vals (name := ccN) hsz)
  have hln : (allS fs ccN).length ≤ n := by
    have := allS_len fs ccN n
    rw [List.take_of_length_le (by rw [hf.lenF]; exact Nat.le_refl _)] at this
    exact this
  have Hln := Lib.hid hln; clear hln
  have Hc := Lib.hid (show ccD fs = dirS (allS fs ccN) from rfl)
  generalize ccD fs = D at *
  generalize allS fs ccN = L at *
  have HB0 := Lib.hid (Blk.new w 59 (dArr zeroD))
  go_enter Tryd.func24, Tryd.ntmps24
  go_wp2_with fail
  refine (HA.out _ ((Ext.refl w).alloc _)).mono ?_; rintro e w1 ⟨A1, n1, c1, rfl, hr1, hc1, hb1⟩
  have h1 := ((Ext.refl w).alloc (.cells (dArr zeroD) 59)).trans hb1
  have HB1 := Lib.hid (HB0.out.ext hb1)
  have hn1 : n1 ≤ 1073741824 := by have := hr1.lenS; have := Hln.out; omega
  go_wp2_with fail
  refine (ref_Parse A1 n1 c1 L _ hr1 hn1 Hv.out).mono ?_; rintro e w2 ⟨rfl, hb2⟩
  rw [← Hc.out]
  have HB2 := Lib.hid (HB1.out.ext hb2)
  go_wp2_with (first | (refine wpList_storeB rfl 59 (.tmp 2) (.tmp 5) rfl rfl w.heap.size _ rfl rfl 59 _ HB2.out infoD rfl (dArr_one D) ?_; intro w9 hB9 hx9))
  exact bodyPost_ret (v := .agg (dArr D)) (results_cell_row rfl _ _ w.heap.size 59 _ (0, 0) _ rfl hB9 Tryd.underlying59 rfl infoD) rfl ⟨rfl, (h1.trans hb2).growB hx9 (Nat.le_refl _)⟩

set_option maxHeartbeats 8000000 in
set_option maxRecDepth 100000 in
theorem ref_Allowance (A : Option Addr) (n c : Nat) (fs : List Fd) (w : World) (hf : RdF w A n fs) (hn : n ≤ 1073741824) (hsz : Bsz 1048576 fs) :
    Calls Tryd.prog 13 #[.slice A n c] w fun e w' => e = .returned (pairV (alwS fs)) ∧ Ext w w' := by
  have HP := Lib.hid (ref_Directives A n c fs w hf hn hsz)
  have Ho := Lib.hid (show alwS fs = if (ccD fs).b4 || (ccD fs).b1 || decide (0 ≤ (ccD fs).n1) then ((0, 0) : Int × Int) else (1000 * max 0 (ccD fs).n2, 1000 * max 0 (ccD fs).n3) from rfl)
  have hbd := ccD_bd fs
  generalize alwS fs = O at *
  generalize ccD fs = D at *
  obtain ⟨_, ⟨u3, u4⟩, ⟨u5, u6⟩, ⟨u7, u8⟩, _, _⟩ := hbd
  have hE1 : ∀ w1 wd, Ext w w1 → ExtB w1.heap.size (w1.alloc (.cells (dArr zeroD) 59)) wd → Ext w wd := fun w1 wd h k => (h.alloc _).growB k h.size
  have HE1 := Lib.hid hE1; clear hE1
  go_enter Tryd.func13, Tryd.ntmps13
  go_wp2_with fail
  refine HP.out.mono ?_; rintro e w1 ⟨rfl, hb1⟩
  cases hb4 : D.b4
  rotate_left
  · have HL := Lib.hid (show Value.tuple #[.int .i64 0, .int .i64 0] = pairV O by rw [Ho.out, hb4]; rfl)
    go_wp2_with (first | (refine wpList_storeB rfl 59 (.tmp 4) (.tmp 6) rfl rfl w1.heap.size _ rfl rfl 59 _ (Blk.new w1 _ _) infoD rfl (dArr_one D) ?_; intro wd hBd hxd; have d1 : wd.cell? ⟨w1.heap.size, 1, none⟩ = some (.bool D.b1) := hBd.cell 1; have d4 : wd.cell? ⟨w1.heap.size, 4, none⟩ = some (.bool D.b4) := hBd.cell 4; have d6 : wd.cell? ⟨w1.heap.size, 6, none⟩ = some (.int .i64 D.n0) := hBd.cell 6; have d7 : wd.cell? ⟨w1.heap.size, 7, none⟩ = some (.int .i64 D.n1) := hBd.cell 7; have d8 : wd.cell? ⟨w1.heap.size, 8, none⟩ = some (.int .i64 D.n2) := hBd.cell 8; have d9 : wd.cell? ⟨w1.heap.size, 9, none⟩ = some (.int .i64 D.n3) := hBd.cell 9))
    go_ret2
    exact ⟨ret_v HL.out, HE1.out _ _ hb1 hxd⟩
  cases hb1' : D.b1
  rotate_left
  · have HL := Lib.hid (show Value.tuple #[.int .i64 0, .int .i64 0] = pairV O by rw [Ho.out, hb4, hb1']; rfl)
    go_wp2_with (first | (refine wpList_storeB rfl 59 (.tmp 4) (.tmp 6) rfl rfl w1.heap.size _ rfl rfl 59 _ (Blk.new w1 _ _) infoD rfl (dArr_one D) ?_; intro wd hBd hxd; have d1 : wd.cell? ⟨w1.heap.size, 1, none⟩ = some (.bool D.b1) := hBd.cell 1; have d4 : wd.cell? ⟨w1.heap.size, 4, none⟩ = some (.bool D.b4) := hBd.cell 4; have d6 : wd.cell? ⟨w1.heap.size, 6, none⟩ = some (.int .i64 D.n0) := hBd.cell 6; have d7 : wd.cell? ⟨w1.heap.size, 7, none⟩ = some (.int .i64 D.n1) := hBd.cell 7; have d8 : wd.cell? ⟨w1.heap.size, 8, none⟩ = some (.int .i64 D.n2) := hBd.cell 8; have d9 : wd.cell? ⟨w1.heap.size, 9, none⟩ = some (.int .i64 D.n3) := hBd.cell 9))
    go_ret2
    exact ⟨ret_v HL.out, HE1.out _ _ hb1 hxd⟩
  by_cases g1 : 0 ≤ D.n1
  · have HL := Lib.hid (show Value.tuple #[.int .i64 0, .int .i64 0] = pairV O by rw [Ho.out, hb4, hb1', decide_eq_true g1]; rfl)
    go_wp2_with (first | (refine wpList_storeB rfl 59 (.tmp 4) (.tmp 6) rfl rfl w1.heap.size _ rfl rfl 59 _ (Blk.new w1 _ _) infoD rfl (dArr_one D) ?_; intro wd hBd hxd; have d1 : wd.cell? ⟨w1.heap.size, 1, none⟩ = some (.bool D.b1) := hBd.cell 1; have d4 : wd.cell? ⟨w1.heap.size, 4, none⟩ = some (.bool D.b4) := hBd.cell 4; have d6 : wd.cell? ⟨w1.heap.size, 6, none⟩ = some (.int .i64 D.n0) := hBd.cell 6; have d7 : wd.cell? ⟨w1.heap.size, 7, none⟩ = some (.int .i64 D.n1) := hBd.cell 7; have d8 : wd.cell? ⟨w1.heap.size, 8, none⟩ = some (.int .i64 D.n2) := hBd.cell 8; have d9 : wd.cell? ⟨w1.heap.size, 9, none⟩ = some (.int .i64 D.n3) := hBd.cell 9))
    go_ret2
    exact ⟨ret_v HL.out, HE1.out _ _ hb1 hxd⟩
  · have HL := Lib.hid (show Value.tuple #[.int .i64 (1000 * max 0 D.n2), .int .i64 (1000 * max 0 D.n3)] = pairV O by rw [Ho.out, hb4, hb1', decide_eq_false g1]; rfl)
    have m2 : 0 ≤ 1000 * max 0 D.n2 := by omega
    have m3 : 1000 * max 0 D.n2 ≤ 2147483647000 := by omega
    have m4 : 0 ≤ 1000 * max 0 D.n3 := by omega
    have m5 : 1000 * max 0 D.n3 ≤ 2147483647000 := by omega
    have w2' : IntKind.i64.wrap (1000 * max 0 D.n2) = 1000 * max 0 D.n2 := IntWalk.i64_in _ (by omega)
    have w3' : IntKind.i64.wrap (1000 * max 0 D.n3) = 1000 * max 0 D.n3 := IntWalk.i64_in _ (by omega)
    go_wp2_with (first | (refine wpList_storeB rfl 59 (.tmp 4) (.tmp 6) rfl rfl w1.heap.size _ rfl rfl 59 _ (Blk.new w1 _ _) infoD rfl (dArr_one D) ?_; intro wd hBd hxd; have d1 : wd.cell? ⟨w1.heap.size, 1, none⟩ = some (.bool D.b1) := hBd.cell 1; have d4 : wd.cell? ⟨w1.heap.size, 4, none⟩ = some (.bool D.b4) := hBd.cell 4; have d6 : wd.cell? ⟨w1.heap.size, 6, none⟩ = some (.int .i64 D.n0) := hBd.cell 6; have d7 : wd.cell? ⟨w1.heap.size, 7, none⟩ = some (.int .i64 D.n1) := hBd.cell 7; have d8 : wd.cell? ⟨w1.heap.size, 8, none⟩ = some (.int .i64 D.n2) := hBd.cell 8; have d9 : wd.cell? ⟨w1.heap.size, 9, none⟩ = some (.int .i64 D.n3) := hBd.cell 9))
    go_region
    all_goals (try go_wp2_with fail)
    all_goals
      go_ret2
      exact ⟨ret_v HL.out, (HE1.out _ _ hb1 hxd).drew⟩

set_option maxHeartbeats 8000000 in
set_option maxRecDepth 100000 in
theorem allowances_walk (A : Option Addr) (n c : Nat) (fs : List Fd) (w : World) (hf : RdF w A n fs) (hbk : fs.length + sumF fs ≤ 1048576) (hg : GlH w) (hgl : Gl w) :
    Calls Tryd.prog 3 #[.slice A n c] w fun e w' => e = .returned (.bool true) ∧ Ext w w' := by
  have hl := hf.lenF
  have Hl := Lib.hid hl; clear hl
  go_enter Tryd.func3, Tryd.ntmps3
  go_wp2_with fail
  refine (law14_large A n c fs _ hf hbk).mono ?_; rintro e w1 ⟨rfl, hb1⟩
  cases hlg : lg14 fs
  rotate_left
  · go_wp2_with fail
    refine (law14_large A n c fs _ (hf.ext hb1) hbk).mono ?_; rintro e w2 ⟨rfl, hb2⟩
    rw [hlg]
    go_wp2_with fail
    go_ret
    exact ⟨rfl, hb1.trans hb2⟩
  have Hs := Lib.hid (lg_no14 hlg)
  have Hbs := Lib.hid ((bsz_of_sumF fs).mono (show sumF fs ≤ 1048576 by omega))
  have hn : n ≤ 2000 := by have := Hl.out; have := Hs.out; omega
  clear hlg hbk
  go_wp2_with fail
  refine (law14_awake _ (hg.ext hb1) (hgl.ext hb1)).mono ?_; rintro e w2 ⟨rfl, hb2⟩
  have h2 := hb1.trans hb2
  go_wp2_with fail
  refine (law_Fields A n c fs _ (hf.ext h2) (by omega)).mono ?_; rintro e w3 ⟨A2, k2, rfl, hf2, hk2, hb3, _⟩
  have h3 := h2.trans hb3
  go_wp2_with fail
  refine (life_Allowance A2 n k2 fs w3 hf2 (by omega) Hbs.out (hgl.ext h3)).mono ?_; rintro e w4 ⟨rfl, hb4⟩
  have HR := Lib.hid (ref_Allowance A n c fs w4 (hf.ext (h3.trans hb4)) (by omega) Hbs.out)
  generalize alwS fs = O at *
  obtain ⟨a, b⟩ := O
  rw [show pairV (a, b) = .tuple #[.int .i64 a, .int .i64 b] from rfl] at HR
  rw [show pairV (a, b) = .tuple #[.int .i64 a, .int .i64 b] from rfl]
  have e1 : (a == a) = true := by simp
  have e2 : (b == b) = true := by simp
  go_wp2_with fail
  refine HR.out.mono ?_; rintro e w5 ⟨rfl, hb5⟩
  go_wp2_with fail
  go_ret
  exact ⟨rfl, (h3.trans hb4).trans hb5⟩
end Go.Proofs.YtjacgdjnocpodaaDoor
