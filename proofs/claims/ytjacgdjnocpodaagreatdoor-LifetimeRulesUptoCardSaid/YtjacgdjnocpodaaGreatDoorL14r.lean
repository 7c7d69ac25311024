
/- The walks of quaysideref14.Negative, Cacheable, Of, Explicit; of LifetimeRules. -/
import Derived.Test.YtjacgdjnocpodaaGreatDoorL14b
import Derived.Test.YtjacgdjnocpodaaGreatDoorLf1r
namespace Go.Proofs.YtjacgdjnocpodaaGreatDoor
open Go.RowKit

def gsC (C N : Bool) : Option Int → Option Int → Option Int
  | some x, some y => if C && decide (y < x) then some (min (if N then 10000 else 86400000) (1000 * (x - y) / 10)) else none
  | _, _ => none
theorem gsC_eq (st : Int) (a b : Option Int) : gsO st a b = gsC (cacS st) (negS st) a b := by
  cases a <;> cases b <;> rfl
set_option maxHeartbeats 2000000 in
set_option maxRecDepth 100000 in
theorem ref_Negative (st : Int) (w : World) :
    Calls Tryz.prog 19 #[.int .i64 st] w fun e w' => e = .returned (.bool (negS st)) ∧ w' = w := by
  have Hn := Lib.hid (show negS st = (st == 404 || st == 405 || st == 410 || st == 414 || st == 501) from rfl)
  generalize negS st = N at *
  cases h1 : (st == 404)
  rotate_left
  · have HL := Lib.hid (show true = N by rw [Hn.out, h1]; rfl)
    go_enter Tryz.func19, Tryz.ntmps19
    go_wp2_with fail
    go_ret
    exact ⟨ret_b HL.out, rfl⟩
  cases h2 : (st == 405)
  rotate_left
  · have HL := Lib.hid (show true = N by rw [Hn.out, h1, h2]; rfl)
    go_enter Tryz.func19, Tryz.ntmps19
    go_wp2_with fail
    go_ret
    exact ⟨ret_b HL.out, rfl⟩
  cases h3 : (st == 410)
  rotate_left
  · have HL := Lib.hid (show true = N by rw [Hn.out, h1, h2, h3]; rfl)
    go_enter Tryz.func19, Tryz.ntmps19
    go_wp2_with fail
    go_ret
    exact ⟨ret_b HL.out, rfl⟩
  cases h4 : (st == 414)
  rotate_left
  · have HL := Lib.hid (show true = N by rw [Hn.out, h1, h2, h3, h4]; rfl)
    go_enter Tryz.func19, Tryz.ntmps19
    go_wp2_with fail
    go_ret
    exact ⟨ret_b HL.out, rfl⟩
  cases h5 : (st == 501)
  rotate_left
  · have HL := Lib.hid (show true = N by rw [Hn.out, h1, h2, h3, h4, h5]; rfl)
    go_enter Tryz.func19, Tryz.ntmps19
    go_wp2_with fail
    go_ret
    exact ⟨ret_b HL.out, rfl⟩
  · have HL := Lib.hid (show false = N by rw [Hn.out, h1, h2, h3, h4, h5]; rfl)
    go_enter Tryz.func19, Tryz.ntmps19
    go_wp2_with fail
    go_ret
    exact ⟨ret_b HL.out, rfl⟩

theorem Rd.atI {w : World} {A : Option Addr} {n : Nat} {l : List Int} (h : Rd w 1 A n (l.map (Value.int .i64))) {k : Nat} (hk : k < l.length) :
    ∃ b o, A = some ⟨b, o, none⟩ ∧ w.cell? ⟨b, o + k, none⟩ = some (.int .i64 l[k]) := by
  obtain ⟨b, o, e, hc⟩ := h.2 (by rw [List.length_map]; omega)
  exact ⟨b, o, e, hc k _ (by rw [List.getElem?_map, List.getElem?_eq_getElem hk]; rfl)⟩
theorem cac_len : cacL.length = 7 := rfl
theorem cac_hit {st : Int} {k : Nat} (hk : k < cacL.length) (h : cacL[k] = st) : cacS st = true := by
  unfold cacS
  rw [Bool.or_eq_true]
  exact .inl (List.contains_iff_mem.2 (h ▸ List.getElem_mem hk))
theorem cac_miss {st : Int} (h : ∀ j (hj : j < cacL.length), cacL[j] ≠ st) : cacS st = negS st := by
  unfold cacS
  rw [show cacL.contains st = false from Bool.eq_false_iff.2 fun e => by
    obtain ⟨j, hj, he⟩ := List.getElem_of_mem (List.contains_iff_mem.1 e)
    exact h j hj he, Bool.false_or]
set_option maxHeartbeats 2000000 in
set_option maxRecDepth 100000 in
theorem ref_Cacheable (st : Int) (w : World) :
    Calls Tryz.prog 12 #[.int .i64 st] w fun e w' => e = .returned (.bool (cacS st)) ∧ Ext w w' := by
  have HN := Lib.hid (ref_Negative st)
  have Hh := Lib.hid (fun (k : Nat) (hk : k < cacL.length) => @cac_hit st k hk)
  have Hm := Lib.hid (@cac_miss st)
  generalize cacS st = C at *
  generalize negS st = N at *
  have hr : Rd (w.alloc (.cells #[.int .i64 200, .int .i64 203, .int .i64 204, .int .i64 206, .int .i64 300, .int .i64 301, .int .i64 308] 3)) 1 (some ⟨w.heap.size, 0, none⟩) 7 (cacL.map (Value.int .i64)) := Rd.lit w #[.int .i64 200, .int .i64 203, .int .i64 204, .int .i64 206, .int .i64 300, .int .i64 301, .int .i64 308] 3 rfl 1 7 rfl
  have HR := Lib.hid hr
  clear hr
  go_enter Tryz.func12, Tryz.ntmps12
  go_wp2_with fail
  have HE := Lib.hid ((Ext.refl w).alloc (.cells #[.int .i64 200, .int .i64 203, .int .i64 204, .int .i64 206, .int .i64 300, .int .i64 301, .int .i64 308] 3))
  generalize w.alloc (.cells #[.int .i64 200, .int .i64 203, .int .i64 204, .int .i64 206, .int .i64 300, .int .i64 301, .int .i64 308] 3) = w1 at *
  generalize w.heap.size = bN at *
  go_loopw [7] (fun i wr => ∃ k, k ≤ 7 ∧ i = .int .i64 (k : Nat) ∧ (∀ j (hj : j < cacL.length), j < k → cacL[j] ≠ st) ∧ Ext w1 wr) (fun i _ => 7 - (intOf i).toNat)
  case atStart => exact ⟨0, Nat.zero_le _, rfl, fun j _ h => by omega, Ext.refl _⟩
  case round =>
    obtain ⟨k, hk, rfl, hall, hbr⟩ := hrel
    by_cases hlt : k < 7
    · have hlt' : k < cacL.length := hlt
      obtain ⟨b, o, hbo, hc0⟩ := (HR.out.ext hbr).atI hlt'
      injection hbo with hbo
      injection hbo with e1 e2
      subst e1; subst e2
      rw [Nat.zero_add] at hc0
      have Hhk := Lib.hid (fun h => Hh.out _ hlt' h)
      have Hal := Lib.hid (fun (h : cacL[k] ≠ st) => show ∀ j (hj : j < cacL.length), j < k + 1 → cacL[j] ≠ st from fun j hj hjk => by
        rcases Nat.lt_or_ge j k with hj2 | hj2
        · exact hall j hj hj2
        · obtain rfl : j = k := by omega
          exact h)
      generalize cacL[k] = x at *
      by_cases hx : x = st
      · have HL := Lib.hid (Hhk.out hx)
        have hz : (x == st) = true := by rw [hx]; simp
        clear hx
        go_wp2_with fail
        go_ret
        exact ⟨ret_b HL.out.symm, HE.out.trans hbr⟩
      · have hz : (x == st) = false := i_ne hx
        have Hal2 := Lib.hid (Hal.out hx)
        clear hx hall
        go_wp2_with fail
        go_roundw
        case rel => exact ⟨k + 1, by omega, by go_num, Hal2.out, hbr⟩
        case measure => simp [intOf]; omega
    · obtain rfl : k = 7 := by omega
      have HC := Lib.hid (Hm.out fun j hj => hall j hj hj)
      clear hall hlt
      go_wp2_with fail
      refine (HN.out _).mono ?_; rintro e w2 ⟨rfl, rfl⟩
      go_wp2_with fail
      go_ret
      exact ⟨ret_b HC.out.symm, HE.out.trans hbr⟩

set_option maxHeartbeats 8000000 in
set_option maxRecDepth 100000 in
theorem ref14_Of (st : Int) (A : Option Addr) (n c : Nat) (fs : List Fd) (w : World) (hf : RdF w A n fs) (hn : n ≤ 1073741824) (hsz : Bsz 1048576 fs) :
    Calls Tryz.prog 8 #[.int .i64 st, .slice A n c] w fun e w' => e = .returned (pairV (ofS st fs)) ∧ Ext w w' := by
  have HP := Lib.hid (ref_Directives A n c fs w hf hn hsz)
  have HD1 := Lib.hid (fun w' (h : Ext w w') => ref_Date A n c fs dateN w' (hf.ext h) hn (by decide) hsz)
  have HD2 := Lib.hid (fun w' (h : Ext w w') => ref_Date A n c fs expN w' (hf.ext h) hn (by decide) hsz)
  have HD3 := Lib.hid (fun w' (h : Ext w w') => ref_Date A n c fs lmN w' (hf.ext h) hn (by decide) hsz)
  have HA := Lib.hid (fun w' (h : Ext w w') => ref_All A n c fs expN w' (hf.ext h) hn (by decide) (fun f hf => Nat.le_trans (hsz f hf).1 (by decide)))
  have HC := Lib.hid (ref_Cacheable st)
  have HN := Lib.hid (ref_Negative st)
  have Ho := Lib.hid (show ofS st fs = if 0 ≤ (ccD fs).n1 then ((1000 * (ccD fs).n1, 1) : Int × Int) else if 0 ≤ (ccD fs).n0 then (1000 * (ccD fs).n0, 2) else if decide (0 < (allS fs expN).length) then (exO (dateS fs dateN) (dateS fs expN), 3) else gE (gsC (cacS st) (negS st) (dateS fs dateN) (dateS fs lmN)) from by rw [← gsC_eq]; rfl)
  have b1 := fun k (h : dateS fs dateN = some k) => dateS_bd h
  have b2 := fun k (h : dateS fs expN = some k) => dateS_bd h
  have b3 := fun k (h : dateS fs lmN = some k) => dateS_bd h
  have hbd := ccD_bd fs
  have hln : (allS fs expN).length ≤ n := by
    have := allS_len fs expN n
    rw [List.take_of_length_le (by rw [hf.lenF]; exact Nat.le_refl _)] at this
    exact this
  generalize ofS st fs = O at *
  generalize ccD fs = D at *
  generalize dateS fs dateN = o1 at *
  generalize dateS fs expN = o2 at *
  generalize dateS fs lmN = o3 at *
  generalize cacS st = C at *
  generalize negS st = N at *
  generalize allS fs expN = L at *
  have Hln := Lib.hid hln
  have B1 := Lib.hid b1; have B2 := Lib.hid b2; have B3 := Lib.hid b3; clear b1 b2 b3 hln
  obtain ⟨⟨u1, u2⟩, ⟨u3, u4⟩, _, _, _, _⟩ := hbd
  have hE1 : ∀ w1 wd, Ext w w1 → ExtB w1.heap.size (w1.alloc (.cells (dArr zeroD) 43)) wd → Ext w wd := fun w1 wd h k => (h.alloc _).growB k h.size
  have HE1 := Lib.hid hE1; clear hE1
  go_enter Tryz.func8, Tryz.ntmps8
  go_wp2_with fail
  refine HP.out.mono ?_; rintro e w1 ⟨rfl, hb1⟩
  by_cases g1 : 0 ≤ D.n1
  · have HL := Lib.hid (show Value.tuple #[.int .i64 (1000 * D.n1), .int .i64 (1)] = pairV O by rw [Ho.out, if_pos g1]; rfl)
    have m2 : 0 ≤ 1000 * D.n1 := by omega
    have m3 : 1000 * D.n1 ≤ 2147483647000 := by omega
    go_wp2_with (first | (refine wpList_storeB rfl 43 (.tmp 6) (.tmp 15) rfl rfl w1.heap.size _ rfl rfl 43 _ (Blk.new w1 _ _) infoD rfl (dArr_one D) ?_; intro wd hBd hxd; have d6 : wd.cell? ⟨w1.heap.size, 6, none⟩ = some (.int .i64 D.n0) := hBd.cell 6; have d7 : wd.cell? ⟨w1.heap.size, 7, none⟩ = some (.int .i64 D.n1) := hBd.cell 7))
    go_ret2
    exact ⟨ret_v HL.out, HE1.out _ _ hb1 hxd⟩
  by_cases g0 : 0 ≤ D.n0
  · have HL := Lib.hid (show Value.tuple #[.int .i64 (1000 * D.n0), .int .i64 (2)] = pairV O by rw [Ho.out, if_neg g1, if_pos g0]; rfl)
    have m2 : 0 ≤ 1000 * D.n0 := by omega
    have m3 : 1000 * D.n0 ≤ 2147483647000 := by omega
    go_wp2_with (first | (refine wpList_storeB rfl 43 (.tmp 6) (.tmp 15) rfl rfl w1.heap.size _ rfl rfl 43 _ (Blk.new w1 _ _) infoD rfl (dArr_one D) ?_; intro wd hBd hxd; have d6 : wd.cell? ⟨w1.heap.size, 6, none⟩ = some (.int .i64 D.n0) := hBd.cell 6; have d7 : wd.cell? ⟨w1.heap.size, 7, none⟩ = some (.int .i64 D.n1) := hBd.cell 7))
    go_ret2
    exact ⟨ret_v HL.out, HE1.out _ _ hb1 hxd⟩
  have HO := Lib.hid (show O = if decide (0 < L.length) then (exO o1 o2, 3) else gE (gsC C N o1 o3) by rw [Ho.out, if_neg g1, if_neg g0])
  clear Ho
  go_wp2_with (first | (refine wpList_storeB rfl 43 (.tmp 6) (.tmp 15) rfl rfl w1.heap.size _ rfl rfl 43 _ (Blk.new w1 _ _) infoD rfl (dArr_one D) ?_; intro wd hBd hxd; have d6 : wd.cell? ⟨w1.heap.size, 6, none⟩ = some (.int .i64 D.n0) := hBd.cell 6; have d7 : wd.cell? ⟨w1.heap.size, 7, none⟩ = some (.int .i64 D.n1) := hBd.cell 7))
  have h2 := HE1.out _ _ hb1 hxd
  refine (HD1.out _ h2).mono ?_; rintro e w3 ⟨⟨k1, rfl, hk1⟩, hb3⟩
  have h3 := h2.trans hb3
  go_wp2_with fail
  refine (HA.out _ h3).mono ?_; rintro e w4 ⟨A4, n4, c4, rfl, hr4, hc4, hb4⟩
  have h4 := h3.trans hb4
  have hl4 := hr4.lenS
  have hn4 : n4 ≤ 1073741824 := by have := Hln.out; omega
  clear hr4
  by_cases hp : 0 < n4
  · have HL := Lib.hid (show O = (exO o1 o2, 3) by rw [HO.out, decide_eq_true (by omega)]; rfl)
    clear HO hl4
    go_wp2_with fail
    refine (HD2.out _ h4).mono ?_; rintro e w5 ⟨⟨k2, rfl, hk2⟩, hb5⟩
    have h5 := h4.trans hb5
    cases o2 with
    | none =>
      have HV := Lib.hid (show Value.tuple #[.int .i64 0, .int .i64 3] = pairV O by rw [HL.out]; cases o1 <;> rfl)
      go_wp2_with fail
      go_ret2
      exact ⟨ret_v HV.out, h5⟩
    | some b =>
      obtain rfl := hk2 _ rfl
      cases o1 with
      | none =>
        have HV := Lib.hid (show Value.tuple #[.int .i64 0, .int .i64 3] = pairV O by rw [HL.out]; rfl)
        go_wp2_with fail
        go_ret2
        exact ⟨ret_v HV.out, h5⟩
      | some a =>
        obtain rfl := hk1 _ rfl
        obtain ⟨a0, a1⟩ := B1.out _ rfl
        obtain ⟨c0, c1⟩ := B2.out _ rfl
        by_cases hlt : k1 < k2
        · have HV := Lib.hid (show Value.tuple #[.int .i64 (1000 * (k2 - k1)), .int .i64 3] = pairV O by rw [HL.out]; show _ = pairV (1000 * max 0 (k2 - k1), 3); rw [show 1000 * max 0 (k2 - k1) = 1000 * (k2 - k1) by omega]; rfl)
          have m2 : 0 ≤ 1000 * (k2 - k1) := by omega
          have m3 : 1000 * (k2 - k1) ≤ 253402300799000 := by omega
          go_wp2_with fail
          go_ret2
          exact ⟨ret_v HV.out, h5⟩
        · have HV := Lib.hid (show Value.tuple #[.int .i64 0, .int .i64 3] = pairV O by rw [HL.out]; show _ = pairV (1000 * max 0 (k2 - k1), 3); rw [show 1000 * max 0 (k2 - k1) = 0 by omega]; rfl)
          go_wp2_with fail
          go_ret2
          exact ⟨ret_v HV.out, h5⟩
  · have HL := Lib.hid (show O = gE (gsC C N o1 o3) by rw [HO.out, decide_eq_false (by omega), if_neg (by decide)])
    obtain rfl : n4 = 0 := by omega
    clear HO hl4 hp
    go_wp2_with fail
    refine (HD3.out _ h4).mono ?_; rintro e w5 ⟨⟨k3, rfl, hk3⟩, hb5⟩
    have h5 := h4.trans hb5
    go_wp2_with fail
    refine (HC.out _).mono ?_; rintro e w6 ⟨rfl, hb6⟩
    have h6 := h5.trans hb6
    cases C
    · have HV := Lib.hid (show Value.tuple #[.int .i64 0, .int .i64 5] = pairV O by rw [HL.out]; cases o1 <;> cases o3 <;> rfl)
      go_wp2_with fail
      go_ret2
      exact ⟨ret_v HV.out, h6⟩
    cases o1 with
    | none =>
      have HV := Lib.hid (show Value.tuple #[.int .i64 0, .int .i64 5] = pairV O by rw [HL.out]; rfl)
      go_wp2_with fail
      go_ret2
      exact ⟨ret_v HV.out, h6⟩
    | some a =>
      obtain rfl := hk1 _ rfl
      obtain ⟨a0, a1⟩ := B1.out _ rfl
      cases o3 with
      | none =>
        have HV := Lib.hid (show Value.tuple #[.int .i64 0, .int .i64 5] = pairV O by rw [HL.out]; rfl)
        go_wp2_with fail
        go_ret2
        exact ⟨ret_v HV.out, h6⟩
      | some b =>
        obtain rfl := hk3 _ rfl
        obtain ⟨c0, c1⟩ := B3.out _ rfl
        have hG : O = gE (if true && decide (k3 < k1) then some (min (if N then 10000 else 86400000) (1000 * (k1 - k3) / 10)) else none) := HL.out
        rw [Bool.true_and] at hG
        by_cases hlt : k3 < k1
        rotate_left
        · have HV := Lib.hid (show Value.tuple #[.int .i64 0, .int .i64 5] = pairV O by rw [hG, decide_eq_false hlt]; first | rfl | done)
          clear hG
          have hge : k1 ≤ k3 := by omega
          go_wp2_with fail
          go_ret2
          exact ⟨ret_v HV.out, h6⟩
        · have HV := Lib.hid (show pairV (min (if N then 10000 else 86400000) (1000 * (k1 - k3) / 10), 4) = pairV O by rw [hG, decide_eq_true hlt]; rfl)
          clear hG
          have hge : ¬ k1 ≤ k3 := by omega
          have q1 : (1000 * (k1 - k3)).tdiv 10 = 1000 * (k1 - k3) / 10 := by rw [Int.tdiv_eq_ediv_of_nonneg (by omega)]
          have q0 : 0 ≤ 1000 * (k1 - k3) / 10 := by omega
          have q2 : 1000 * (k1 - k3) / 10 ≤ 25340230079900 := by omega
          have q3 : 0 ≤ 1000 * (k1 - k3) := by omega
          have q4 : 1000 * (k1 - k3) ≤ 253402300799000 := by omega
          go_wp2_with fail
          refine (HN.out _).mono ?_; rintro e w7 ⟨rfl, rfl⟩
          cases N
          all_goals
            go_wp2_with fail
            go_ret2
            exact ⟨ret_v (by rw [← HV.out]; first | rfl | (refine congrArg (fun x => Value.tuple #[.int .i64 x, .int .i64 4]) ?_; simp only [Bool.false_eq_true, if_false, if_true]; omega)), h6⟩

theorem of_kind (st : Int) (fs : List Fd) : decide ((ofS st fs).2 ≤ 3) = xplS fs := by
  unfold ofS xplS
  by_cases g1 : 0 ≤ (ccD fs).n1
  · rw [if_pos g1, decide_eq_true g1]; rfl
  rw [if_neg g1, decide_eq_false g1]
  by_cases g0 : 0 ≤ (ccD fs).n0
  · rw [if_pos g0, decide_eq_true g0]; rfl
  rw [if_neg g0, decide_eq_false g0]
  cases hasF fs expN
  · rw [if_neg (by decide)]
    cases gsS st fs <;> rfl
  · rfl
set_option maxHeartbeats 2000000 in
set_option maxRecDepth 100000 in
theorem ref_Explicit (A : Option Addr) (n c : Nat) (fs : List Fd) (w : World) (hf : RdF w A n fs) (hn : n ≤ 1073741824) (hsz : Bsz 1048576 fs) :
    Calls Tryz.prog 10 #[.slice A n c] w fun e w' => e = .returned (.bool (xplS fs)) ∧ Ext w w' := by
  have HO := Lib.hid (ref14_Of 0 A n c fs w hf hn hsz)
  have HK := Lib.hid (of_kind 0 fs)
  generalize ofS 0 fs = O at *
  generalize xplS fs = X at *
  obtain ⟨o1, o2⟩ := O
  go_enter Tryz.func10, Tryz.ntmps10
  go_wp2_with fail
  refine HO.out.mono ?_; rintro e w1 ⟨rfl, hb1⟩
  rw [show pairV (o1, o2) = .tuple #[.int .i64 o1, .int .i64 o2] from rfl]
  go_wp2_with fail
  go_ret
  exact ⟨ret_b HK.out, hb1⟩

set_option maxHeartbeats 4000000 in
set_option maxRecDepth 100000 in
theorem rules_walk (st : Int) (A : Option Addr) (n c : Nat) (fs : List Fd) (w : World) (hf : RdF w A n fs) (hbk : fs.length + sumF fs ≤ 1048576) (hg : GlH w) (hgl : Gl w) :
    Calls Tryz.prog 3 #[.int .i64 st, .slice A n c] w fun e w' => e = .returned (.bool true) ∧ Ext w w' := by
  have hl := hf.lenF
  have Hl := Lib.hid hl; clear hl
  go_enter Tryz.func3, Tryz.ntmps3
  go_wp2_with fail
  refine (law14_large A n c fs _ hf hbk).mono ?_; rintro e w1 ⟨rfl, hb1⟩
  cases hlg : lg14 fs
  rotate_left
  · go_wp2_with fail
    refine (law14_large A n c fs _ (hf.ext hb1) hbk).mono ?_; rintro e w2 ⟨rfl, hb2⟩
    rw [hlg]
    go_wp2_with fail
    go_ret
    exact ⟨rfl, hb1.trans hb2⟩
  have Hs := Lib.hid (lg_no14 hlg)
  have Hbs := Lib.hid ((bsz_of_sumF fs).mono (show sumF fs ≤ 1048576 by omega))
  have hn : n ≤ 2000 := by have := Hl.out; have := Hs.out; omega
  clear hlg hbk
  go_wp2_with fail
  refine (law14_awake _ (hg.ext hb1) (hgl.ext hb1)).mono ?_; rintro e w2 ⟨rfl, hb2⟩
  have h2 := hb1.trans hb2
  go_wp2_with fail
  refine (law_Fields A n c fs _ (hf.ext h2) (by omega)).mono ?_; rintro e w3 ⟨A2, k2, rfl, hf2, hk2, hb3, _⟩
  have h3 := h2.trans hb3
  go_wp2_with fail
  refine (life_Of st A2 n k2 fs _ hf2 (by omega) Hbs.out (hg.ext h3) (by have := Hs.out; omega) (hgl.ext h3)).mono ?_; rintro e w4 ⟨rfl, hb4⟩
  have h4 := h3.trans hb4
  have HR := Lib.hid (ref14_Of st A n c fs w4 (hf.ext h4) (by omega) Hbs.out)
  have HX := Lib.hid (fun w' (h : Ext w4 w') => life_Explicit A2 n k2 fs w' (hf2.ext (hb4.trans h)) (by omega) Hbs.out (hg.ext (h4.trans h)) (by have := Hs.out; omega) (hgl.ext (h4.trans h)))
  have HY := Lib.hid (fun w' (h : Ext w4 w') => ref_Explicit A n c fs w' (hf.ext (h4.trans h)) (by omega) Hbs.out)
  have HC := Lib.hid (life_Cacheable st)
  have HD := Lib.hid (ref_Cacheable st)
  generalize ofS st fs = O at *
  generalize xplS fs = X at *
  generalize cacS st = C at *
  obtain ⟨a, b⟩ := O
  rw [show pairV (a, b) = .tuple #[.int .i64 a, .int .i64 b] from rfl] at HR
  rw [show pairV (a, b) = .tuple #[.int .i64 a, .int .i64 b] from rfl]
  have e1 : (a == a) = true := by simp
  have e2 : (b == b) = true := by simp
  go_wp2_with fail
  refine HR.out.mono ?_; rintro e w5 ⟨rfl, hb5⟩
  go_wp2_with fail
  refine (HX.out _ hb5).mono ?_; rintro e w6 ⟨rfl, hb6⟩
  have h6 := hb5.trans hb6
  go_wp2_with fail
  refine (HY.out _ h6).mono ?_; rintro e w7 ⟨rfl, hb7⟩
  have h7 := h6.trans hb7
  cases X
  all_goals
    go_wp2_with fail
    refine (HC.out _).mono ?_; rintro e w8 ⟨rfl, rfl⟩
    go_wp2_with fail
    refine (HD.out _).mono ?_; rintro e w9 ⟨rfl, hb9⟩
    cases C
    all_goals
      go_wp2_with fail
      go_ret
      exact ⟨rfl, (h4.trans h7).trans hb9⟩
end Go.Proofs.YtjacgdjnocpodaaGreatDoor
