
/- The walks of lifetime.expires, Cacheable, guess, Explicit, Of, Allowance. -/
import Derived.Test.YtjacgdjnocpodaaGreatDoorLf1
import Derived.Test.YtjacgdjnocpodaaGreatDoorGetO
namespace Go.Proofs.YtjacgdjnocpodaaGreatDoor
open Go.RowKit

theorem ret_p {a b : Int × Int} (h : a = b) : Ending.returned (pairV a) = .returned (pairV b) := by rw [h]
def gE : Option Int → Int × Int
  | some n => (n, 4)
  | none => (0, 5)
theorem pair_mk (a b : Int) : Value.tuple #[.int .i64 a, .int .i64 b] = pairV (a, b) := rfl

set_option maxHeartbeats 4000000 in
set_option maxRecDepth 100000 in
theorem life_Cacheable (st : Int) (w : World) :
    Calls Tryz.prog 11 #[.int .i64 st] w fun e w' => e = .returned (.bool (cacS st)) ∧ w' = w := by
  have HN := Lib.hid (life_negative st)
  have Hc := Lib.hid (show cacS st = ((st == 200 || (st == 203 || (st == 204 || (st == 206 || (st == 300 || (st == 301 || (st == 308 || false))))))) || negS st) from by unfold cacS cacL; rfl)
  generalize cacS st = C at *
  generalize negS st = N at *
  cases h0 : (st == 200)
  rotate_left
  · have HL := Lib.hid (show true = C by rw [Hc.out, h0]; rfl)
    go_enter Tryz.func11, Tryz.ntmps11
    go_wp2_with fail
    go_ret
    exact ⟨ret_b HL.out, rfl⟩
  cases h1 : (st == 203)
  rotate_left
  · have HL := Lib.hid (show true = C by rw [Hc.out, h0, h1]; rfl)
    go_enter Tryz.func11, Tryz.ntmps11
    go_wp2_with fail
    go_ret
    exact ⟨ret_b HL.out, rfl⟩
  cases h2 : (st == 204)
  rotate_left
  · have HL := Lib.hid (show true = C by rw [Hc.out, h0, h1, h2]; rfl)
    go_enter Tryz.func11, Tryz.ntmps11
    go_wp2_with fail
    go_ret
    exact ⟨ret_b HL.out, rfl⟩
  cases h3 : (st == 206)
  rotate_left
  · have HL := Lib.hid (show true = C by rw [Hc.out, h0, h1, h2, h3]; rfl)
    go_enter Tryz.func11, Tryz.ntmps11
    go_wp2_with fail
    go_ret
    exact ⟨ret_b HL.out, rfl⟩
  cases h4 : (st == 300)
  rotate_left
  · have HL := Lib.hid (show true = C by rw [Hc.out, h0, h1, h2, h3, h4]; rfl)
    go_enter Tryz.func11, Tryz.ntmps11
    go_wp2_with fail
    go_ret
    exact ⟨ret_b HL.out, rfl⟩
  cases h5 : (st == 301)
  rotate_left
  · have HL := Lib.hid (show true = C by rw [Hc.out, h0, h1, h2, h3, h4, h5]; rfl)
    go_enter Tryz.func11, Tryz.ntmps11
    go_wp2_with fail
    go_ret
    exact ⟨ret_b HL.out, rfl⟩
  cases h6 : (st == 308)
  rotate_left
  · have HL := Lib.hid (show true = C by rw [Hc.out, h0, h1, h2, h3, h4, h5, h6]; rfl)
    go_enter Tryz.func11, Tryz.ntmps11
    go_wp2_with fail
    go_ret
    exact ⟨ret_b HL.out, rfl⟩
  have HL := Lib.hid (show N = C by rw [Hc.out, h0, h1, h2, h3, h4, h5, h6]; rfl)
  go_enter Tryz.func11, Tryz.ntmps11
  go_wp2_with fail
  refine (HN.out _).mono ?_; rintro e w1 ⟨rfl, rfl⟩
  go_wp2_with fail
  go_ret
  exact ⟨ret_b HL.out, rfl⟩

set_option maxHeartbeats 4000000 in
set_option maxRecDepth 100000 in
theorem life_expires (A : Option Addr) (n c : Nat) (fs : List Fd) (w : World) (hf : RdF w A n fs) (hn : n ≤ 1073741824) (hsz : Bsz 1048576 fs) (hg : GlH w) :
    Calls Tryz.prog 14 #[.slice A n c] w fun e w' => e = .returned (.int .i64 (exS fs)) ∧ Ext w w' := by
  have D1 := Lib.hid (fun w' (h : Ext w w') => life_date A n c fs dateN w' (hf.ext h) hn (by decide) hsz (hg.ext h))
  have D2 := Lib.hid (fun w' (h : Ext w w') => life_date A n c fs expN w' (hf.ext h) hn (by decide) hsz (hg.ext h))
  have He := Lib.hid (show exS fs = exO (dateS fs dateN) (dateS fs expN) from rfl)
  have b1 := fun k (h : dateS fs dateN = some k) => dateS_bd h
  have b2 := fun k (h : dateS fs expN = some k) => dateS_bd h
  generalize exS fs = E at *
  generalize dateS fs dateN = o1 at *
  generalize dateS fs expN = o2 at *
  have B1 := Lib.hid b1; have B2 := Lib.hid b2; clear b1 b2
  go_enter Tryz.func14, Tryz.ntmps14
  go_wp2_with fail
  refine (D1.out _ (Ext.refl _)).mono ?_; rintro e w1 ⟨rfl, hb1⟩
  cases o1 with
  | none =>
    have HL := Lib.hid (show 0 = E from He.out.symm)
    rw [dtV_none]
    go_wp2_with fail
    refine (D2.out _ hb1).mono ?_; rintro e w2 ⟨rfl, hb2⟩
    unfold dtV
    go_wp2_with fail
    go_ret
    exact ⟨ret_i HL.out, hb1.trans hb2⟩
  | some a =>
    rw [dtV_some]
    go_wp2_with fail
    refine (D2.out _ hb1).mono ?_; rintro e w2 ⟨rfl, hb2⟩
    cases o2 with
    | none =>
      have HL := Lib.hid (show 0 = E from He.out.symm)
      rw [dtV_none]
      go_wp2_with fail
      go_ret
      exact ⟨ret_i HL.out, hb1.trans hb2⟩
    | some b =>
      have HL := Lib.hid (show 1000 * max 0 (b - a) = E from He.out.symm)
      obtain ⟨a0, a1⟩ := B1.out _ rfl
      obtain ⟨c0, c1⟩ := B2.out _ rfl
      have m0 : 0 ≤ max 0 (b - a) := by omega
      have m1 : max 0 (b - a) ≤ 253402300799 := by omega
      have m2 : 0 ≤ max 0 (b - a) * 1000 := by omega
      have m3 : max 0 (b - a) * 1000 ≤ 253402300799000 := by omega
      rw [dtV_some]
      go_wp2_with fail
      go_ret
      exact ⟨ret_i (by rw [← HL.out]; first | rfl | omega), hb1.trans hb2⟩

set_option maxHeartbeats 8000000 in
set_option maxRecDepth 100000 in
theorem life_guess (st : Int) (A : Option Addr) (n c : Nat) (fs : List Fd) (w : World) (hf : RdF w A n fs) (hn : n ≤ 1073741824) (hsz : Bsz 1048576 fs) (hg : GlH w) :
    Calls Tryz.prog 15 #[.int .i64 st, .slice A n c] w fun e w' => e = .returned (dtV (gsS st fs)) ∧ Ext w w' := by
  have D1 := Lib.hid (fun w' (h : Ext w w') => life_date A n c fs dateN w' (hf.ext h) hn (by decide) hsz (hg.ext h))
  have D2 := Lib.hid (fun w' (h : Ext w w') => life_date A n c fs lmN w' (hf.ext h) hn (by decide) hsz (hg.ext h))
  have HC := Lib.hid (life_Cacheable st)
  have HN := Lib.hid (life_negative st)
  have b1 := fun k (h : dateS fs dateN = some k) => dateS_bd h
  have b2 := fun k (h : dateS fs lmN = some k) => dateS_bd h
  have He := Lib.hid (show gsS st fs = match dateS fs dateN, dateS fs lmN with
    | some x, some y => if cacS st && decide (y < x) then some (min (if negS st then 10000 else 86400000) (1000 * (x - y) / 10)) else none
    | _, _ => none from rfl)
  generalize gsS st fs = G at *
  generalize dateS fs dateN = o1 at *
  generalize dateS fs lmN = o2 at *
  generalize cacS st = C at *
  generalize negS st = N at *
  have B1 := Lib.hid b1; have B2 := Lib.hid b2; clear b1 b2
  go_enter Tryz.func15, Tryz.ntmps15
  go_wp2_with fail
  refine (D1.out _ (Ext.refl _)).mono ?_; rintro e w1 ⟨rfl, hb1⟩
  cases o1 with
  | none =>
    have HL := Lib.hid (show dtV none = dtV G by rw [He.out])
    rw [dtV_none]
    go_wp2_with fail
    refine (D2.out _ hb1).mono ?_; rintro e w2 ⟨rfl, hb2⟩
    unfold dtV
    go_wp2_with fail
    refine (HC.out _).mono ?_; rintro e w3 ⟨rfl, rfl⟩
    cases C
    all_goals
      go_wp2_with fail
      go_ret2
      exact ⟨ret_v HL.out, hb1.trans hb2⟩
  | some a =>
    rw [dtV_some]
    go_wp2_with fail
    refine (D2.out _ hb1).mono ?_; rintro e w2 ⟨rfl, hb2⟩
    cases o2 with
    | none =>
      have HL := Lib.hid (show dtV none = dtV G by rw [He.out])
      rw [dtV_none]
      go_wp2_with fail
      refine (HC.out _).mono ?_; rintro e w3 ⟨rfl, rfl⟩
      cases C
      all_goals
        go_wp2_with fail
        go_ret2
        exact ⟨ret_v HL.out, hb1.trans hb2⟩
    | some b =>
      obtain ⟨a0, a1⟩ := B1.out _ rfl
      obtain ⟨c0, c1⟩ := B2.out _ rfl
      have hG := He.out
      simp only [] at hG
      rw [dtV_some]
      go_wp2_with fail
      refine (HC.out _).mono ?_; rintro e w3 ⟨rfl, rfl⟩
      cases C
      · have HL := Lib.hid (show dtV none = dtV G by rw [hG]; rfl)
        clear hG
        go_wp2_with fail
        go_ret2
        exact ⟨ret_v HL.out, hb1.trans hb2⟩
      by_cases hlt : b < a
      rotate_left
      · have HL := Lib.hid (show dtV none = dtV G by rw [hG, decide_eq_false hlt]; rfl)
        clear hG
        go_wp2_with fail
        go_ret2
        exact ⟨ret_v HL.out, hb1.trans hb2⟩
      · have HL := Lib.hid (show dtV (some (min (if N then 10000 else 86400000) (1000 * (a - b) / 10))) = dtV G by rw [hG, decide_eq_true hlt]; rfl)
        clear hG
        have hge : ¬ a ≤ b := by omega
        have q1 : ((a - b) * 1000).tdiv 10 = 1000 * (a - b) / 10 := by rw [Int.tdiv_eq_ediv_of_nonneg (by omega)]; omega
        have q0 : 0 ≤ 1000 * (a - b) / 10 := by omega
        have q2 : 1000 * (a - b) / 10 ≤ 25340230079900 := by omega
        have q3 : 0 ≤ (a - b) * 1000 := by omega
        have q4 : (a - b) * 1000 ≤ 253402300799000 := by omega
        have q5 : (a - b) * 1000 / 10 = 1000 * (a - b) / 10 := by omega
        go_wp2_with fail
        refine (HN.out _).mono ?_; rintro e w4 ⟨rfl, rfl⟩
        cases N
        all_goals
          go_wp2_with fail
          go_ret2
          exact ⟨ret_v (by rw [← HL.out]; first | rfl | (refine congrArg (fun x => Value.tuple #[.int .i64 x, .bool true]) ?_; simp only [Option.getD_some, Bool.false_eq_true, if_false, if_true]; omega)), hb1.trans hb2⟩

set_option maxHeartbeats 8000000 in
set_option maxRecDepth 100000 in
theorem life_Explicit (A : Option Addr) (n c : Nat) (fs : List Fd) (w : World) (hf : RdF w A n fs) (hn : n ≤ 1073741824) (hsz : Bsz 1048576 fs) (hg : GlH w) (hT : sumF fs + 2 * n ≤ 70368744177664) (hgl : Gl w) :
    Calls Tryz.prog 9 #[.slice A n c] w fun e w' => e = .returned (.bool (xplS fs)) ∧ Ext w w' := by
  have HP := Lib.hid (show Calls Tryz.prog 13 #[.slice A n c] w fun e w' => e = .returned (.agg (dArr (ccD fs))) ∧ Ext w w' from dir_Parse A n c fs w hf hn hsz hgl)
  have HG := Lib.hid (fun w' (h : Ext w w') => field_GetO A n c fs expN w' (hf.ext h) hn (by decide) hsz hT)
  have He := Lib.hid (show xplS fs = (decide (0 ≤ (ccD fs).n1) || decide (0 ≤ (ccD fs).n0) || (getO fs expN).isSome) from by rw [getO_some]; rfl)
  have hbd := ccD_bd fs
  generalize xplS fs = E at *
  generalize ccD fs = D at *
  generalize getO fs expN = o1 at *
  obtain ⟨⟨_, _⟩, ⟨_, _⟩, _, _, _, _⟩ := hbd
  go_enter Tryz.func9, Tryz.ntmps9
  go_wp2_with fail
  refine HP.out.mono ?_; rintro e w1 ⟨rfl, hb1⟩
  by_cases g1 : 0 ≤ D.n1
  · have HL := Lib.hid (show true = E by rw [He.out, decide_eq_true g1]; rfl)
    go_wp2_with (first | (refine wpList_storeB rfl 38 (.tmp 3) (.tmp 7) rfl rfl w1.heap.size _ rfl rfl 38 _ (Blk.new w1 _ _) infoDp rfl (dArr_one D) ?_; intro wd hBd hxd; have d1 : wd.cell? ⟨w1.heap.size, 1, none⟩ = some (.bool D.b1) := hBd.cell 1; have d4 : wd.cell? ⟨w1.heap.size, 4, none⟩ = some (.bool D.b4) := hBd.cell 4; have d6 : wd.cell? ⟨w1.heap.size, 6, none⟩ = some (.int .i64 D.n0) := hBd.cell 6; have d7 : wd.cell? ⟨w1.heap.size, 7, none⟩ = some (.int .i64 D.n1) := hBd.cell 7; have d8 : wd.cell? ⟨w1.heap.size, 8, none⟩ = some (.int .i64 D.n2) := hBd.cell 8; have d9 : wd.cell? ⟨w1.heap.size, 9, none⟩ = some (.int .i64 D.n3) := hBd.cell 9))
    have hE2 := (hb1.alloc (.cells (dArr zeroD) 38)).growB hxd hb1.size
    refine (HG.out _ hE2).mono ?_; rintro e w3 ⟨rfl, hb3⟩
    have d6 := hb3.cell d6
    have d7 := hb3.cell d7
    unfold getV
    go_wp2_with fail
    go_ret
    exact ⟨ret_b HL.out, hE2.trans hb3⟩
  have Hg1 := Lib.hid (decide_eq_false g1)
  have z1 := decide_eq_false g1
  by_cases g0 : 0 ≤ D.n0
  · have HL := Lib.hid (show true = E by rw [He.out, Hg1.out, decide_eq_true g0]; rfl)
    go_wp2_with (first | (refine wpList_storeB rfl 38 (.tmp 3) (.tmp 7) rfl rfl w1.heap.size _ rfl rfl 38 _ (Blk.new w1 _ _) infoDp rfl (dArr_one D) ?_; intro wd hBd hxd; have d1 : wd.cell? ⟨w1.heap.size, 1, none⟩ = some (.bool D.b1) := hBd.cell 1; have d4 : wd.cell? ⟨w1.heap.size, 4, none⟩ = some (.bool D.b4) := hBd.cell 4; have d6 : wd.cell? ⟨w1.heap.size, 6, none⟩ = some (.int .i64 D.n0) := hBd.cell 6; have d7 : wd.cell? ⟨w1.heap.size, 7, none⟩ = some (.int .i64 D.n1) := hBd.cell 7; have d8 : wd.cell? ⟨w1.heap.size, 8, none⟩ = some (.int .i64 D.n2) := hBd.cell 8; have d9 : wd.cell? ⟨w1.heap.size, 9, none⟩ = some (.int .i64 D.n3) := hBd.cell 9))
    have hE2 := (hb1.alloc (.cells (dArr zeroD) 38)).growB hxd hb1.size
    refine (HG.out _ hE2).mono ?_; rintro e w3 ⟨rfl, hb3⟩
    have d6 := hb3.cell d6
    have d7 := hb3.cell d7
    unfold getV
    go_wp2_with fail
    go_ret
    exact ⟨ret_b HL.out, hE2.trans hb3⟩
  · have HL := Lib.hid (show o1.isSome = E by rw [He.out, Hg1.out, decide_eq_false g0]; rfl)
    have z0 := decide_eq_false g0
    go_wp2_with (first | (refine wpList_storeB rfl 38 (.tmp 3) (.tmp 7) rfl rfl w1.heap.size _ rfl rfl 38 _ (Blk.new w1 _ _) infoDp rfl (dArr_one D) ?_; intro wd hBd hxd; have d1 : wd.cell? ⟨w1.heap.size, 1, none⟩ = some (.bool D.b1) := hBd.cell 1; have d4 : wd.cell? ⟨w1.heap.size, 4, none⟩ = some (.bool D.b4) := hBd.cell 4; have d6 : wd.cell? ⟨w1.heap.size, 6, none⟩ = some (.int .i64 D.n0) := hBd.cell 6; have d7 : wd.cell? ⟨w1.heap.size, 7, none⟩ = some (.int .i64 D.n1) := hBd.cell 7; have d8 : wd.cell? ⟨w1.heap.size, 8, none⟩ = some (.int .i64 D.n2) := hBd.cell 8; have d9 : wd.cell? ⟨w1.heap.size, 9, none⟩ = some (.int .i64 D.n3) := hBd.cell 9))
    have hE2 := (hb1.alloc (.cells (dArr zeroD) 38)).growB hxd hb1.size
    refine (HG.out _ hE2).mono ?_; rintro e w3 ⟨rfl, hb3⟩
    have d6 := hb3.cell d6
    have d7 := hb3.cell d7
    unfold getV
    go_wp2_with fail
    go_ret
    exact ⟨ret_b HL.out, hE2.trans hb3⟩

set_option maxHeartbeats 8000000 in
set_option maxRecDepth 100000 in
theorem life_Of (st : Int) (A : Option Addr) (n c : Nat) (fs : List Fd) (w : World) (hf : RdF w A n fs) (hn : n ≤ 1073741824) (hsz : Bsz 1048576 fs) (hg : GlH w) (hT : sumF fs + 2 * n ≤ 70368744177664) (hgl : Gl w) :
    Calls Tryz.prog 7 #[.int .i64 st, .slice A n c] w fun e w' => e = .returned (pairV (ofS st fs)) ∧ Ext w w' := by
  have HP := Lib.hid (show Calls Tryz.prog 13 #[.slice A n c] w fun e w' => e = .returned (.agg (dArr (ccD fs))) ∧ Ext w w' from dir_Parse A n c fs w hf hn hsz hgl)
  have HX := Lib.hid (fun w' (h : Ext w w') => life_Explicit A n c fs w' (hf.ext h) hn hsz (hg.ext h) hT (hgl.ext h))
  have HE := Lib.hid (fun w' (h : Ext w w') => life_expires A n c fs w' (hf.ext h) hn hsz (hg.ext h))
  have HU := Lib.hid (fun w' (h : Ext w w') => life_guess st A n c fs w' (hf.ext h) hn hsz (hg.ext h))
  have Ho := Lib.hid (show ofS st fs = if 0 ≤ (ccD fs).n1 then ((1000 * (ccD fs).n1, 1) : Int × Int) else if 0 ≤ (ccD fs).n0 then (1000 * (ccD fs).n0, 2) else if hasF fs expN then (exS fs, 3) else gE (gsS st fs) from rfl)
  have hx := show xplS fs = (decide (0 ≤ (ccD fs).n1) || decide (0 ≤ (ccD fs).n0) || hasF fs expN) from rfl
  have hbd := ccD_bd fs
  generalize ofS st fs = O at *
  generalize exS fs = EX at *
  generalize gsS st fs = GS at *
  generalize xplS fs = X at *
  generalize hasF fs expN = hh at *
  generalize ccD fs = D at *
  have Hx := Lib.hid hx; clear hx
  obtain ⟨⟨u1, u2⟩, ⟨u3, u4⟩, _, _, _, _⟩ := hbd
  have hE1 : ∀ w1 wd, Ext w w1 → ExtB w1.heap.size (w1.alloc (.cells (dArr zeroD) 38)) wd → Ext w wd := fun w1 wd h k => (h.alloc _).growB k h.size
  have HE1 := Lib.hid hE1; clear hE1
  go_enter Tryz.func7, Tryz.ntmps7
  go_wp2_with fail
  refine HP.out.mono ?_; rintro e w1 ⟨rfl, hb1⟩
  by_cases g1 : 0 ≤ D.n1
  · have HL := Lib.hid (show Value.tuple #[.int .i64 (D.n1 * 1000), .int .i64 (1)] = pairV O by rw [Ho.out, if_pos g1, Int.mul_comm D.n1]; rfl)
    have m2 : 0 ≤ D.n1 * 1000 := by omega
    have m3 : D.n1 * 1000 ≤ 2147483647000 := by omega
    go_wp2_with (first | (refine wpList_storeB rfl 38 (.tmp 6) (.tmp 10) rfl rfl w1.heap.size _ rfl rfl 38 _ (Blk.new w1 _ _) infoDp rfl (dArr_one D) ?_; intro wd hBd hxd; have d1 : wd.cell? ⟨w1.heap.size, 1, none⟩ = some (.bool D.b1) := hBd.cell 1; have d4 : wd.cell? ⟨w1.heap.size, 4, none⟩ = some (.bool D.b4) := hBd.cell 4; have d6 : wd.cell? ⟨w1.heap.size, 6, none⟩ = some (.int .i64 D.n0) := hBd.cell 6; have d7 : wd.cell? ⟨w1.heap.size, 7, none⟩ = some (.int .i64 D.n1) := hBd.cell 7; have d8 : wd.cell? ⟨w1.heap.size, 8, none⟩ = some (.int .i64 D.n2) := hBd.cell 8; have d9 : wd.cell? ⟨w1.heap.size, 9, none⟩ = some (.int .i64 D.n3) := hBd.cell 9))
    go_ret2
    exact ⟨ret_v HL.out, HE1.out _ _ hb1 hxd⟩
  by_cases g0 : 0 ≤ D.n0
  · have HL := Lib.hid (show Value.tuple #[.int .i64 (D.n0 * 1000), .int .i64 (2)] = pairV O by rw [Ho.out, if_neg g1, if_pos g0, Int.mul_comm D.n0]; rfl)
    have m2 : 0 ≤ D.n0 * 1000 := by omega
    have m3 : D.n0 * 1000 ≤ 2147483647000 := by omega
    go_wp2_with (first | (refine wpList_storeB rfl 38 (.tmp 6) (.tmp 10) rfl rfl w1.heap.size _ rfl rfl 38 _ (Blk.new w1 _ _) infoDp rfl (dArr_one D) ?_; intro wd hBd hxd; have d1 : wd.cell? ⟨w1.heap.size, 1, none⟩ = some (.bool D.b1) := hBd.cell 1; have d4 : wd.cell? ⟨w1.heap.size, 4, none⟩ = some (.bool D.b4) := hBd.cell 4; have d6 : wd.cell? ⟨w1.heap.size, 6, none⟩ = some (.int .i64 D.n0) := hBd.cell 6; have d7 : wd.cell? ⟨w1.heap.size, 7, none⟩ = some (.int .i64 D.n1) := hBd.cell 7; have d8 : wd.cell? ⟨w1.heap.size, 8, none⟩ = some (.int .i64 D.n2) := hBd.cell 8; have d9 : wd.cell? ⟨w1.heap.size, 9, none⟩ = some (.int .i64 D.n3) := hBd.cell 9))
    go_ret2
    exact ⟨ret_v HL.out, HE1.out _ _ hb1 hxd⟩
  have hX : X = hh := by rw [Hx.out, decide_eq_false g1, decide_eq_false g0]; rfl
  subst hX
  have HO := Lib.hid (show O = if X then ((EX, 3) : Int × Int) else gE GS by rw [Ho.out, if_neg g1, if_neg g0])
  clear Ho
  go_wp2_with (first | (refine wpList_storeB rfl 38 (.tmp 6) (.tmp 10) rfl rfl w1.heap.size _ rfl rfl 38 _ (Blk.new w1 _ _) infoDp rfl (dArr_one D) ?_; intro wd hBd hxd; have d1 : wd.cell? ⟨w1.heap.size, 1, none⟩ = some (.bool D.b1) := hBd.cell 1; have d4 : wd.cell? ⟨w1.heap.size, 4, none⟩ = some (.bool D.b4) := hBd.cell 4; have d6 : wd.cell? ⟨w1.heap.size, 6, none⟩ = some (.int .i64 D.n0) := hBd.cell 6; have d7 : wd.cell? ⟨w1.heap.size, 7, none⟩ = some (.int .i64 D.n1) := hBd.cell 7; have d8 : wd.cell? ⟨w1.heap.size, 8, none⟩ = some (.int .i64 D.n2) := hBd.cell 8; have d9 : wd.cell? ⟨w1.heap.size, 9, none⟩ = some (.int .i64 D.n3) := hBd.cell 9))
  have hE2 := HE1.out _ _ hb1 hxd
  refine (HX.out _ hE2).mono ?_; rintro e w3 ⟨rfl, hb3⟩
  have hE3 := hE2.trans hb3
  cases X
  · go_wp2_with fail
    refine (HU.out _ hE3).mono ?_; rintro e w4 ⟨rfl, hb4⟩
    cases GS with
    | none =>
      have HL := Lib.hid (show Value.tuple #[.int .i64 (0), .int .i64 (5)] = pairV O by rw [HO.out]; rfl)
      rw [dtV_none]
      go_wp2_with fail
      go_ret2
      exact ⟨ret_v HL.out, hE3.trans hb4⟩
    | some k =>
      have HL := Lib.hid (show Value.tuple #[.int .i64 (k), .int .i64 (4)] = pairV O by rw [HO.out]; rfl)
      rw [dtV_some]
      go_wp2_with fail
      go_ret2
      exact ⟨ret_v HL.out, hE3.trans hb4⟩
  · have HL := Lib.hid (show Value.tuple #[.int .i64 (EX), .int .i64 (3)] = pairV O by rw [HO.out]; rfl)
    go_wp2_with fail
    refine (HE.out _ hE3).mono ?_; rintro e w4 ⟨rfl, hb4⟩
    go_wp2_with fail
    go_ret2
    exact ⟨ret_v HL.out, hE3.trans hb4⟩

end Go.Proofs.YtjacgdjnocpodaaGreatDoor
