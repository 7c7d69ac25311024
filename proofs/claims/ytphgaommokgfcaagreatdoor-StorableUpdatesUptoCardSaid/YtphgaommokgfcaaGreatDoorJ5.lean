/- The walks of quaysideref14.Directives and Allowance; of LifetimeAllowances. The walks of quaysideref14.Negative, Cacheable, Of, Explicit; of LifetimeRules. The walk of quaysideref15.Of. StorableReasons returns true. Arguments opened: a slice of pairs of strings, a slice of strings, as lists. Plain facts on readings. Arguments opened, with their bulk: a slice of strings, a slice of pairs of strings; the witness of a row that lists variables. Plain facts on readings. A slice of pairs of strings, opened, with its bulk. Plain facts on readings. Struct arguments opened: a request and a response; two truth values. Plain facts on readings. Listed variables: from a row's condition to what the walks ask of them. No condition. Listed variables: httpdate's tables out of a row's condition. No condition. The library's own variable that every call of the package needs, out of a world's shape. The walks of quaysideref02.Same and field.Same. The walk of storable.Update. The walks of quaysideref02.Strip, quaysidelaw02.Ref; FieldStrips returns true. The walk of quaysideref15.Update. -/
import Derived.Test.YtphgaommokgfcaaGreatDoorJ4
import Derived.ProofKit
import Derived.SizedLaws
import Derived.Deep.Slices
import Derived.Deep.Fields
import Derived.ChangeSame
import Derived.ShutString
import Derived.OpenShut
import Derived.Test.YtphgaommokgfcaaGreatDoorRows
import Derived.SliceStrings
import Derived.Lay
import Derived.LaidOnce
import Derived.LaidMore
import Derived.Deep.DeepHandedRow
import Derived.Lib.SmallJoins
import Derived.MakeChecks
import Derived.FnData
import Derived.Deep.RegionHeld3
set_option linter.unusedSimpArgs false
set_option linter.unusedVariables false
namespace Go.Proofs.YtphgaommokgfcaaGreatDoor
open Go.RowKit

set_option maxHeartbeats 4000000 in
set_option maxRecDepth 100000 in
theorem ref_Directives (A : Option Addr) (n c : Nat) (fs : List Fd) (w : World) (hf : RdF w A n fs) (hn : n ≤ 1073741824) (hsz : Bsz 1048576 fs) :
    Calls Tryz.prog 15 #[.slice A n c] w fun e w' => e = .returned (.agg (dArr (ccD fs))) ∧ Ext w w' := by
  have HA := Lib.hid (fun w' (h : Ext w w') => ref_All A n c fs ccN w' (hf.ext h) hn (by decide) (fun f hf => Nat.le_trans (hsz f hf).1 (by decide)))
  have Hv := Lib.hid (bsz_vals (name := ccN) hsz)
  have hln : (allS fs ccN).length ≤ n := by
    have := allS_len fs ccN n
    rw [List.take_of_length_le (by rw [hf.lenF]; exact Nat.le_refl _)] at this
    exact this
  have Hln := Lib.hid hln; clear hln
  have Hc := Lib.hid (show ccD fs = dirS (allS fs ccN) from rfl)
  generalize ccD fs = D at *
  generalize allS fs ccN = L at *
  have HB0 := Lib.hid (Blk.new w 48 (dArr zeroD))
  go_enter Tryz.func15, Tryz.ntmps15
  go_wp2_with fail
  refine (HA.out _ ((Ext.refl w).alloc _)).mono ?_; rintro e w1 ⟨A1, n1, c1, rfl, hr1, hc1, hb1⟩
  have h1 := ((Ext.refl w).alloc (.cells (dArr zeroD) 48)).trans hb1
  have HB1 := Lib.hid (HB0.out.ext hb1)
  have hn1 : n1 ≤ 1073741824 := by have := hr1.lenS; have := Hln.out; omega
  go_wp2_with fail
  refine (ref_Parse A1 n1 c1 L _ hr1 hn1 Hv.out).mono ?_; rintro e w2 ⟨rfl, hb2⟩
  rw [← Hc.out]
  have HB2 := Lib.hid (HB1.out.ext hb2)
  go_wp2_with (first | (refine wpList_storeB rfl 48 (.tmp 2) (.tmp 5) rfl rfl w.heap.size _ rfl rfl 48 _ HB2.out infoD rfl (dArr_one D) ?_; intro w9 hB9 hx9))
  exact bodyPost_ret (v := .agg (dArr D)) (results_cell_row rfl _ _ w.heap.size 48 _ (0, 0) _ rfl hB9 Tryz.underlying48 rfl infoD) rfl ⟨rfl, (h1.trans hb2).growB hx9 (Nat.le_refl _)⟩

end Go.Proofs.YtphgaommokgfcaaGreatDoor

namespace Go.Proofs.YtphgaommokgfcaaGreatDoor
open Go.RowKit

def gsC (C N : Bool) : Option Int → Option Int → Option Int
  | some x, some y => if C && decide (y < x) then some (min (if N then 10000 else 86400000) (1000 * (x - y) / 10)) else none
  | _, _ => none
theorem gsC_eq (st : Int) (a b : Option Int) : gsO st a b = gsC (cacS st) (negS st) a b := by
  cases a <;> cases b <;> rfl
set_option maxHeartbeats 2000000 in
set_option maxRecDepth 100000 in
theorem ref_Negative (st : Int) (w : World) :
    Calls Tryz.prog 41 #[.int .i64 st] w fun e w' => e = .returned (.bool (negS st)) ∧ w' = w := by
  have Hn := Lib.hid (show negS st = (st == 404 || st == 405 || st == 410 || st == 414 || st == 501) from rfl)
  generalize negS st = N at *
  cases h1 : (st == 404)
  rotate_left
  · have HL := Lib.hid (show true = N by rw [Hn.out, h1]; rfl)
    go_enter Tryz.func41, Tryz.ntmps41
    go_wp2_with fail
    go_ret
    exact ⟨ret_b HL.out, rfl⟩
  cases h2 : (st == 405)
  rotate_left
  · have HL := Lib.hid (show true = N by rw [Hn.out, h1, h2]; rfl)
    go_enter Tryz.func41, Tryz.ntmps41
    go_wp2_with fail
    go_ret
    exact ⟨ret_b HL.out, rfl⟩
  cases h3 : (st == 410)
  rotate_left
  · have HL := Lib.hid (show true = N by rw [Hn.out, h1, h2, h3]; rfl)
    go_enter Tryz.func41, Tryz.ntmps41
    go_wp2_with fail
    go_ret
    exact ⟨ret_b HL.out, rfl⟩
  cases h4 : (st == 414)
  rotate_left
  · have HL := Lib.hid (show true = N by rw [Hn.out, h1, h2, h3, h4]; rfl)
    go_enter Tryz.func41, Tryz.ntmps41
    go_wp2_with fail
    go_ret
    exact ⟨ret_b HL.out, rfl⟩
  cases h5 : (st == 501)
  rotate_left
  · have HL := Lib.hid (show true = N by rw [Hn.out, h1, h2, h3, h4, h5]; rfl)
    go_enter Tryz.func41, Tryz.ntmps41
    go_wp2_with fail
    go_ret
    exact ⟨ret_b HL.out, rfl⟩
  · have HL := Lib.hid (show false = N by rw [Hn.out, h1, h2, h3, h4, h5]; rfl)
    go_enter Tryz.func41, Tryz.ntmps41
    go_wp2_with fail
    go_ret
    exact ⟨ret_b HL.out, rfl⟩

theorem Rd.atI {w : World} {A : Option Addr} {n : Nat} {l : List Int} (h : Rd w 1 A n (l.map (Value.int .i64))) {k : Nat} (hk : k < l.length) :
    ∃ b o, A = some ⟨b, o, none⟩ ∧ w.cell? ⟨b, o + k, none⟩ = some (.int .i64 l[k]) := by
  obtain ⟨b, o, e, hc⟩ := h.2 (by rw [List.length_map]; omega)
  exact ⟨b, o, e, hc k _ (by rw [List.getElem?_map, List.getElem?_eq_getElem hk]; rfl)⟩
theorem cac_len : cacL.length = 7 := rfl
theorem cac_hit {st : Int} {k : Nat} (hk : k < cacL.length) (h : cacL[k] = st) : cacS st = true := by
  unfold cacS
  rw [Bool.or_eq_true]
  exact .inl (List.contains_iff_mem.2 (h ▸ List.getElem_mem hk))
theorem cac_miss {st : Int} (h : ∀ j (hj : j < cacL.length), cacL[j] ≠ st) : cacS st = negS st := by
  unfold cacS
  rw [show cacL.contains st = false from Bool.eq_false_iff.2 fun e => by
    obtain ⟨j, hj, he⟩ := List.getElem_of_mem (List.contains_iff_mem.1 e)
    exact h j hj he, Bool.false_or]
set_option maxHeartbeats 2000000 in
set_option maxRecDepth 100000 in
theorem ref_Cacheable (st : Int) (w : World) :
    Calls Tryz.prog 17 #[.int .i64 st] w fun e w' => e = .returned (.bool (cacS st)) ∧ Ext w w' := by
  have HN := Lib.hid (ref_Negative st)
  have Hh := Lib.hid (fun (k : Nat) (hk : k < cacL.length) => @cac_hit st k hk)
  have Hm := Lib.hid (@cac_miss st)
  generalize cacS st = C at *
  generalize negS st = N at *
  have hr : Rd (w.alloc (.cells #[.int .i64 200, .int .i64 203, .int .i64 204, .int .i64 206, .int .i64 300, .int .i64 301, .int .i64 308] 3)) 1 (some ⟨w.heap.size, 0, none⟩) 7 (cacL.map (Value.int .i64)) := Rd.lit w #[.int .i64 200, .int .i64 203, .int .i64 204, .int .i64 206, .int .i64 300, .int .i64 301, .int .i64 308] 3 rfl 1 7 rfl
  have HR := Lib.hid hr
  clear hr
  go_enter Tryz.func17, Tryz.ntmps17
  go_wp2_with fail
  have HE := Lib.hid ((Ext.refl w).alloc (.cells #[.int .i64 200, .int .i64 203, .int .i64 204, .int .i64 206, .int .i64 300, .int .i64 301, .int .i64 308] 3))
  generalize w.alloc (.cells #[.int .i64 200, .int .i64 203, .int .i64 204, .int .i64 206, .int .i64 300, .int .i64 301, .int .i64 308] 3) = w1 at *
  generalize w.heap.size = bN at *
  go_loopw [7] (fun i wr => ∃ k, k ≤ 7 ∧ i = .int .i64 (k : Nat) ∧ (∀ j (hj : j < cacL.length), j < k → cacL[j] ≠ st) ∧ Ext w1 wr) (fun i _ => 7 - (intOf i).toNat)
  case atStart => exact ⟨0, Nat.zero_le _, rfl, fun j _ h => by omega, Ext.refl _⟩
  case round =>
    obtain ⟨k, hk, rfl, hall, hbr⟩ := hrel
    by_cases hlt : k < 7
    · have hlt' : k < cacL.length := hlt
      obtain ⟨b, o, hbo, hc0⟩ := (HR.out.ext hbr).atI hlt'
      injection hbo with hbo
      injection hbo with e1 e2
      subst e1; subst e2
      rw [Nat.zero_add] at hc0
      have Hhk := Lib.hid (fun h => Hh.out _ hlt' h)
      have Hal := Lib.hid (fun (h : cacL[k] ≠ st) => show ∀ j (hj : j < cacL.length), j < k + 1 → cacL[j] ≠ st from fun j hj hjk => by
        rcases Nat.lt_or_ge j k with hj2 | hj2
        · exact hall j hj hj2
        · obtain rfl : j = k := by omega
          exact h)
      generalize cacL[k] = x at *
      by_cases hx : x = st
      · have HL := Lib.hid (Hhk.out hx)
        have hz : (x == st) = true := by rw [hx]; simp
        clear hx
        go_wp2_with fail
        go_ret
        exact ⟨ret_b HL.out.symm, HE.out.trans hbr⟩
      · have hz : (x == st) = false := i_ne hx
        have Hal2 := Lib.hid (Hal.out hx)
        clear hx hall
        go_wp2_with fail
        go_roundw
        case rel => exact ⟨k + 1, by omega, by go_num, Hal2.out, hbr⟩
        case measure => simp [intOf]; omega
    · obtain rfl : k = 7 := by omega
      have HC := Lib.hid (Hm.out fun j hj => hall j hj hj)
      clear hall hlt
      go_wp2_with fail
      refine (HN.out _).mono ?_; rintro e w2 ⟨rfl, rfl⟩
      go_wp2_with fail
      go_ret
      exact ⟨ret_b HC.out.symm, HE.out.trans hbr⟩

set_option maxHeartbeats 8000000 in
set_option maxRecDepth 100000 in
theorem ref14_Of (st : Int) (A : Option Addr) (n c : Nat) (fs : List Fd) (w : World) (hf : RdF w A n fs) (hn : n ≤ 1073741824) (hsz : Bsz 1048576 fs) :
    Calls Tryz.prog 16 #[.int .i64 st, .slice A n c] w fun e w' => e = .returned (pairV (ofS st fs)) ∧ Ext w w' := by
  have HP := Lib.hid (ref_Directives A n c fs w hf hn hsz)
  have HD1 := Lib.hid (fun w' (h : Ext w w') => ref_Date A n c fs dateN w' (hf.ext h) hn (by decide) hsz)
  have HD2 := Lib.hid (fun w' (h : Ext w w') => ref_Date A n c fs expN w' (hf.ext h) hn (by decide) hsz)
  have HD3 := Lib.hid (fun w' (h : Ext w w') => ref_Date A n c fs lmN w' (hf.ext h) hn (by decide) hsz)
  have HA := Lib.hid (fun w' (h : Ext w w') => ref_All A n c fs expN w' (hf.ext h) hn (by decide) (fun f hf => Nat.le_trans (hsz f hf).1 (by decide)))
  have HC := Lib.hid (ref_Cacheable st)
  have HN := Lib.hid (ref_Negative st)
  have Ho := Lib.hid (show ofS st fs = if 0 ≤ (ccD fs).n1 then ((1000 * (ccD fs).n1, 1) : Int × Int) else if 0 ≤ (ccD fs).n0 then (1000 * (ccD fs).n0, 2) else if decide (0 < (allS fs expN).length) then (exO (dateS fs dateN) (dateS fs expN), 3) else gE (gsC (cacS st) (negS st) (dateS fs dateN) (dateS fs lmN)) from by rw [← gsC_eq]; rfl)
  have b1 := fun k (h : dateS fs dateN = some k) => dateS_bd h
  have b2 := fun k (h : dateS fs expN = some k) => dateS_bd h
  have b3 := fun k (h : dateS fs lmN = some k) => dateS_bd h
  have hbd := ccD_bd fs
  have hln : (allS fs expN).length ≤ n := by
    have := allS_len fs expN n
    rw [List.take_of_length_le (by rw [hf.lenF]; exact Nat.le_refl _)] at this
    exact this
  generalize ofS st fs = O at *
  generalize ccD fs = D at *
  generalize dateS fs dateN = o1 at *
  generalize dateS fs expN = o2 at *
  generalize dateS fs lmN = o3 at *
  generalize cacS st = C at *
  generalize negS st = N at *
  generalize allS fs expN = L at *
  have Hln := Lib.hid hln
  have B1 := Lib.hid b1; have B2 := Lib.hid b2; have B3 := Lib.hid b3; clear b1 b2 b3 hln
  obtain ⟨⟨u1, u2⟩, ⟨u3, u4⟩, _, _, _, _⟩ := hbd
  have hE1 : ∀ w1 wd, Ext w w1 → ExtB w1.heap.size (w1.alloc (.cells (dArr zeroD) 48)) wd → Ext w wd := fun w1 wd h k => (h.alloc _).growB k h.size
  have HE1 := Lib.hid hE1; clear hE1
  go_enter Tryz.func16, Tryz.ntmps16
  go_wp2_with fail
  refine HP.out.mono ?_; rintro e w1 ⟨rfl, hb1⟩
  by_cases g1 : 0 ≤ D.n1
  · have HL := Lib.hid (show Value.tuple #[.int .i64 (1000 * D.n1), .int .i64 (1)] = pairV O by rw [Ho.out, if_pos g1]; rfl)
    have m2 : 0 ≤ 1000 * D.n1 := by omega
    have m3 : 1000 * D.n1 ≤ 2147483647000 := by omega
    go_wp2_with (first | (refine wpList_storeB rfl 48 (.tmp 6) (.tmp 15) rfl rfl w1.heap.size _ rfl rfl 48 _ (Blk.new w1 _ _) infoD rfl (dArr_one D) ?_; intro wd hBd hxd; have d6 : wd.cell? ⟨w1.heap.size, 6, none⟩ = some (.int .i64 D.n0) := hBd.cell 6; have d7 : wd.cell? ⟨w1.heap.size, 7, none⟩ = some (.int .i64 D.n1) := hBd.cell 7))
    go_ret2
    exact ⟨ret_v HL.out, HE1.out _ _ hb1 hxd⟩
  by_cases g0 : 0 ≤ D.n0
  · have HL := Lib.hid (show Value.tuple #[.int .i64 (1000 * D.n0), .int .i64 (2)] = pairV O by rw [Ho.out, if_neg g1, if_pos g0]; rfl)
    have m2 : 0 ≤ 1000 * D.n0 := by omega
    have m3 : 1000 * D.n0 ≤ 2147483647000 := by omega
    go_wp2_with (first | (refine wpList_storeB rfl 48 (.tmp 6) (.tmp 15) rfl rfl w1.heap.size _ rfl rfl 48 _ (Blk.new w1 _ _) infoD rfl (dArr_one D) ?_; intro wd hBd hxd; have d6 : wd.cell? ⟨w1.heap.size, 6, none⟩ = some (.int .i64 D.n0) := hBd.cell 6; have d7 : wd.cell? ⟨w1.heap.size, 7, none⟩ = some (.int .i64 D.n1) := hBd.cell 7))
    go_ret2
    exact ⟨ret_v HL.out, HE1.out _ _ hb1 hxd⟩
  have HO := Lib.hid (show O = if decide (0 < L.length) then (exO o1 o2, 3) else gE (gsC C N o1 o3) by rw [Ho.out, if_neg g1, if_neg g0])
  clear Ho
  go_wp2_with (first | (refine wpList_storeB rfl 48 (.tmp 6) (.tmp 15) rfl rfl w1.heap.size _ rfl rfl 48 _ (Blk.new w1 _ _) infoD rfl (dArr_one D) ?_; intro wd hBd hxd; have d6 : wd.cell? ⟨w1.heap.size, 6, none⟩ = some (.int .i64 D.n0) := hBd.cell 6; have d7 : wd.cell? ⟨w1.heap.size, 7, none⟩ = some (.int .i64 D.n1) := hBd.cell 7))
  have h2 := HE1.out _ _ hb1 hxd
  refine (HD1.out _ h2).mono ?_; rintro e w3 ⟨⟨k1, rfl, hk1⟩, hb3⟩
  have h3 := h2.trans hb3
  go_wp2_with fail
  refine (HA.out _ h3).mono ?_; rintro e w4 ⟨A4, n4, c4, rfl, hr4, hc4, hb4⟩
  have h4 := h3.trans hb4
  have hl4 := hr4.lenS
  have hn4 : n4 ≤ 1073741824 := by have := Hln.out; omega
  clear hr4
  by_cases hp : 0 < n4
  · have HL := Lib.hid (show O = (exO o1 o2, 3) by rw [HO.out, decide_eq_true (by omega)]; rfl)
    clear HO hl4
    go_wp2_with fail
    refine (HD2.out _ h4).mono ?_; rintro e w5 ⟨⟨k2, rfl, hk2⟩, hb5⟩
    have h5 := h4.trans hb5
    cases o2 with
    | none =>
      have HV := Lib.hid (show Value.tuple #[.int .i64 0, .int .i64 3] = pairV O by rw [HL.out]; cases o1 <;> rfl)
      go_wp2_with fail
      go_ret2
      exact ⟨ret_v HV.out, h5⟩
    | some b =>
      obtain rfl := hk2 _ rfl
      cases o1 with
      | none =>
        have HV := Lib.hid (show Value.tuple #[.int .i64 0, .int .i64 3] = pairV O by rw [HL.out]; rfl)
        go_wp2_with fail
        go_ret2
        exact ⟨ret_v HV.out, h5⟩
      | some a =>
        obtain rfl := hk1 _ rfl
        obtain ⟨a0, a1⟩ := B1.out _ rfl
        obtain ⟨c0, c1⟩ := B2.out _ rfl
        by_cases hlt : k1 < k2
        · have HV := Lib.hid (show Value.tuple #[.int .i64 (1000 * (k2 - k1)), .int .i64 3] = pairV O by rw [HL.out]; show _ = pairV (1000 * max 0 (k2 - k1), 3); rw [show 1000 * max 0 (k2 - k1) = 1000 * (k2 - k1) by omega]; rfl)
          have m2 : 0 ≤ 1000 * (k2 - k1) := by omega
          have m3 : 1000 * (k2 - k1) ≤ 253402300799000 := by omega
          go_wp2_with fail
          go_ret2
          exact ⟨ret_v HV.out, h5⟩
        · have HV := Lib.hid (show Value.tuple #[.int .i64 0, .int .i64 3] = pairV O by rw [HL.out]; show _ = pairV (1000 * max 0 (k2 - k1), 3); rw [show 1000 * max 0 (k2 - k1) = 0 by omega]; rfl)
          go_wp2_with fail
          go_ret2
          exact ⟨ret_v HV.out, h5⟩
  · have HL := Lib.hid (show O = gE (gsC C N o1 o3) by rw [HO.out, decide_eq_false (by omega), if_neg (by decide)])
    obtain rfl : n4 = 0 := by omega
    clear HO hl4 hp
    go_wp2_with fail
    refine (HD3.out _ h4).mono ?_; rintro e w5 ⟨⟨k3, rfl, hk3⟩, hb5⟩
    have h5 := h4.trans hb5
    go_wp2_with fail
    refine (HC.out _).mono ?_; rintro e w6 ⟨rfl, hb6⟩
    have h6 := h5.trans hb6
    cases C
    · have HV := Lib.hid (show Value.tuple #[.int .i64 0, .int .i64 5] = pairV O by rw [HL.out]; cases o1 <;> cases o3 <;> rfl)
      go_wp2_with fail
      go_ret2
      exact ⟨ret_v HV.out, h6⟩
    cases o1 with
    | none =>
      have HV := Lib.hid (show Value.tuple #[.int .i64 0, .int .i64 5] = pairV O by rw [HL.out]; rfl)
      go_wp2_with fail
      go_ret2
      exact ⟨ret_v HV.out, h6⟩
    | some a =>
      obtain rfl := hk1 _ rfl
      obtain ⟨a0, a1⟩ := B1.out _ rfl
      cases o3 with
      | none =>
        have HV := Lib.hid (show Value.tuple #[.int .i64 0, .int .i64 5] = pairV O by rw [HL.out]; rfl)
        go_wp2_with fail
        go_ret2
        exact ⟨ret_v HV.out, h6⟩
      | some b =>
        obtain rfl := hk3 _ rfl
        obtain ⟨c0, c1⟩ := B3.out _ rfl
        have hG : O = gE (if true && decide (k3 < k1) then some (min (if N then 10000 else 86400000) (1000 * (k1 - k3) / 10)) else none) := HL.out
        rw [Bool.true_and] at hG
        by_cases hlt : k3 < k1
        rotate_left
        · have HV := Lib.hid (show Value.tuple #[.int .i64 0, .int .i64 5] = pairV O by rw [hG, decide_eq_false hlt]; first | rfl | done)
          clear hG
          have hge : k1 ≤ k3 := by omega
          go_wp2_with fail
          go_ret2
          exact ⟨ret_v HV.out, h6⟩
        · have HV := Lib.hid (show pairV (min (if N then 10000 else 86400000) (1000 * (k1 - k3) / 10), 4) = pairV O by rw [hG, decide_eq_true hlt]; rfl)
          clear hG
          have hge : ¬ k1 ≤ k3 := by omega
          have q1 : (1000 * (k1 - k3)).tdiv 10 = 1000 * (k1 - k3) / 10 := by rw [Int.tdiv_eq_ediv_of_nonneg (by omega)]
          have q0 : 0 ≤ 1000 * (k1 - k3) / 10 := by omega
          have q2 : 1000 * (k1 - k3) / 10 ≤ 25340230079900 := by omega
          have q3 : 0 ≤ 1000 * (k1 - k3) := by omega
          have q4 : 1000 * (k1 - k3) ≤ 253402300799000 := by omega
          go_wp2_with fail
          refine (HN.out _).mono ?_; rintro e w7 ⟨rfl, rfl⟩
          cases N
          all_goals
            go_wp2_with fail
            go_ret2
            exact ⟨ret_v (by rw [← HV.out]; first | rfl | (refine congrArg (fun x => Value.tuple #[.int .i64 x, .int .i64 4]) ?_; simp only [Bool.false_eq_true, if_false, if_true]; omega)), h6⟩

theorem of_kind (st : Int) (fs : List Fd) : decide ((ofS st fs).2 ≤ 3) = xplS fs := by
  unfold ofS xplS
  by_cases g1 : 0 ≤ (ccD fs).n1
  · rw [if_pos g1, decide_eq_true g1]; rfl
  rw [if_neg g1, decide_eq_false g1]
  by_cases g0 : 0 ≤ (ccD fs).n0
  · rw [if_pos g0, decide_eq_true g0]; rfl
  rw [if_neg g0, decide_eq_false g0]
  cases hasF fs expN
  · rw [if_neg (by decide)]
    cases gsS st fs <;> rfl
  · rfl
set_option maxHeartbeats 2000000 in
set_option maxRecDepth 100000 in
theorem ref_Explicit (A : Option Addr) (n c : Nat) (fs : List Fd) (w : World) (hf : RdF w A n fs) (hn : n ≤ 1073741824) (hsz : Bsz 1048576 fs) :
    Calls Tryz.prog 18 #[.slice A n c] w fun e w' => e = .returned (.bool (xplS fs)) ∧ Ext w w' := by
  have HO := Lib.hid (ref14_Of 0 A n c fs w hf hn hsz)
  have HK := Lib.hid (of_kind 0 fs)
  generalize ofS 0 fs = O at *
  generalize xplS fs = X at *
  obtain ⟨o1, o2⟩ := O
  go_enter Tryz.func18, Tryz.ntmps18
  go_wp2_with fail
  refine HO.out.mono ?_; rintro e w1 ⟨rfl, hb1⟩
  rw [show pairV (o1, o2) = .tuple #[.int .i64 o1, .int .i64 o2] from rfl]
  go_wp2_with fail
  go_ret
  exact ⟨ret_b HK.out, hb1⟩

end Go.Proofs.YtphgaommokgfcaaGreatDoor

namespace Go.Proofs.YtphgaommokgfcaaGreatDoor
open Go.RowKit

set_option maxHeartbeats 16000000 in
set_option maxRecDepth 100000 in
theorem ref15_Of (me : ByteArray) (Aq : Option Addr) (nq cq : Nat) (rq : List Fd) (st : Int) (Ar : Option Addr) (nr cr : Nat) (rp : List Fd) (w : World) (hfq : RdF w Aq nq rq) (hfr : RdF w Ar nr rp) (hnq : nq ≤ 1073741824) (hnr : nr ≤ 1073741824) (hszq : Bsz 1048576 rq) (hszr : Bsz 1048576 rp) :
    Calls Tryz.prog 8 #[.string me, .slice Aq nq cq, .int .i64 st, .slice Ar nr cr] w fun e w' => e = .returned (.int .i64 (rsS (isG me) rq st rp)) ∧ Ext w w' := by
  have HP := Lib.hid (ref_Directives Ar nr cr rp w hfr hnr hszr)
  have HQ := Lib.hid (fun w' (h : Ext w w') => ref_Directives Aq nq cq rq w' (hfq.ext h) hnq hszq)
  have HO := Lib.hid (fun w' (h : Ext w w') => ref14_Of st Ar nr cr rp w' (hfr.ext h) hnr hszr)
  have HC := Lib.hid (ref_Cacheable st)
  have HX := Lib.hid (fun w' (h : Ext w w') => ref_Explicit Ar nr cr rp w' (hfr.ext h) hnr hszr)
  have HS := Lib.hid (fun w' (h : Ext w w') => ref_All Ar nr cr rp scN w' (hfr.ext h) hnr (by decide) (fun f hf => Nat.le_trans (hszr f hf).1 (by decide)))
  have HV := Lib.hid (fun w' (h : Ext w w') => ref15_star Ar nr cr rp w' (hfr.ext h) hnr hszr)
  have HA := Lib.hid (fun w' (h : Ext w w') => ref_All Aq nq cq rq auN w' (hfq.ext h) hnq (by decide) (fun f hf => Nat.le_trans (hszq f hf).1 (by decide)))
  have HM := Lib.hid (fun w' (h : Ext w w') => ref15_Validator Ar nr cr rp w' (hfr.ext h) hnr hszr)
  have Hl1 := Lib.hid (len_all' hfr scN)
  have Hl2 := Lib.hid (len_all' hfq auN)
  have Hh1 := Lib.hid (show hasF rp scN = decide (0 < (allS rp scN).length) from rfl)
  have Hh2 := Lib.hid (show hasF rq auN = decide (0 < (allS rq auN).length) from rfl)
  have Hr := Lib.hid (show rsS (isG me) rq st rp = if !isG me then 1 else if !(!(decide (st < 200) || decide (599 < st) || st == 206 || st == 304 || (!cacS st && !xplS rp))) then 2
    else if (ccD rp).b0 || (ccD rq).b0 then 3 else if (ccD rp).b2 then 4 else if hasF rp scN then 5 else if stF rp then 6
    else if hasF rq auN && !((ccD rp).b3 || (ccD rp).b4 || decide (0 ≤ (ccD rp).n1)) then 7
    else if (ofS st rp).2 == 5 && !(vlF rp) then 8 else 0 from rfl)
  have hgg : (me.toList == [71, 69, 84]) = isG me := rfl
  generalize rsS (isG me) rq st rp = R at *
  generalize isG me = G at *
  generalize ccD rp = D at *
  generalize ccD rq = Q at *
  generalize ofS st rp = K at *
  generalize vlF rp = M at *
  generalize cacS st = C at *
  generalize xplS rp = X at *
  generalize hasF rp scN = sc at *
  generalize stF rp = sf at *
  generalize hasF rq auN = au at *
  generalize allS rp scN = L1 at *
  generalize allS rq auN = L2 at *
  obtain ⟨k1, k2⟩ := K
  have HGG := Lib.hid hgg
  clear hgg
  go_enter Tryz.func8, Tryz.ntmps8
  go_wp2_with fail
  refine HP.out.mono ?_; rintro e w1 ⟨rfl, hb1⟩
  go_wp2_with fail
  refine (HQ.out _ hb1).mono ?_; rintro e w2 ⟨rfl, hb2⟩
  have hb2 := hb1.trans hb2
  have HD1 := Lib.hid ((Blk.new w2 48 (dArr zeroD)).alloc (.cells (dArr zeroD) 48))
  have hD2 := Blk.new (w2.alloc (.cells (dArr zeroD) 48)) 48 (dArr zeroD)
  rw [World.size_alloc] at hD2
  have HD2 := Lib.hid hD2
  have HEE := Lib.hid ((hb2.alloc (.cells (dArr zeroD) 48)).alloc (.cells (dArr zeroD) 48))
  have hs2 := hb2.size
  clear hD2 hb1
  go_wp2_with (first
    | (refine wpList_storeB rfl 48 (.tmp 9) (.tmp 15) rfl rfl w2.heap.size _ rfl rfl 48 _ HD1.out infoD rfl (dArr_one D) ?_; intro wc hBc hxc; have HD3 := Lib.hid (HD2.out.grown hxc (by simp)))
    | (refine wpList_storeB rfl 48 (.tmp 10) (.tmp 17) rfl rfl (w2.heap.size + 1) _ rfl rfl 48 _ HD3.out infoD rfl (dArr_one Q) ?_; intro wd hBd hxd; have hBc := hBc.grown hxd (by simp)))
  have h2 := (HEE.out.growB hxc hs2).growB hxd (by omega)
  have d0 : wd.cell? ⟨w2.heap.size, 0, none⟩ = some (.bool D.b0) := hBc.cell 0
  have d2 : wd.cell? ⟨w2.heap.size, 2, none⟩ = some (.bool D.b2) := hBc.cell 2
  have d3 : wd.cell? ⟨w2.heap.size, 3, none⟩ = some (.bool D.b3) := hBc.cell 3
  have d4 : wd.cell? ⟨w2.heap.size, 4, none⟩ = some (.bool D.b4) := hBc.cell 4
  have d7 : wd.cell? ⟨w2.heap.size, 7, none⟩ = some (.int .i64 D.n1) := hBc.cell 7
  have dq : wd.cell? ⟨w2.heap.size + 1, 0, none⟩ = some (.bool Q.b0) := hBd.cell 0
  clear hBc hBd hxc hxd HD1 HD2 HD3 HEE hs2 hb2
  refine (HO.out _ h2).mono ?_; rintro e w4 ⟨rfl, hb4⟩
  have h4 := h2.trans hb4
  replace d0 := hb4.cell d0; replace d2 := hb4.cell d2; replace d3 := hb4.cell d3; replace d4 := hb4.cell d4; replace d7 := hb4.cell d7; replace dq := hb4.cell dq
  clear hb4 h2
  generalize w2.heap.size = bd at *
  rw [show pairV (k1, k2) = .tuple #[.int .i64 k1, .int .i64 k2] from rfl]
  obtain ⟨al, hal⟩ : ∃ al, (D.b3 || D.b4 || decide (0 ≤ D.n1)) = al := ⟨_, rfl⟩
  rw [hal] at Hr
  have hal2 := hal
  cases h3 : D.b3
  rotate_left
  · skip
    rw [h3] at d3
    obtain rfl : true = al := by rw [← hal]; simp [*]
    clear hal hal2
    cases G
    · skip
      have hme : (me.toList == [71, 69, 84]) = false := HGG.out
      have HL := Lib.hid (show (1 : Int) = R by rw [Hr.out]; simp [])
      clear Hr
      go_wp2_with fail
      go_ret
      exact ⟨ret_i HL.out, h4⟩
    have hme : (me.toList == [71, 69, 84]) = true := HGG.out
    by_cases s0 : st < 200
    · skip
      have HL := Lib.hid (show (2 : Int) = R by rw [Hr.out]; simp [s0])
      clear Hr
      go_wp2_with fail
      go_ret
      exact ⟨ret_i HL.out, h4⟩
    by_cases s1 : 599 < st
    · skip
      have HL := Lib.hid (show (2 : Int) = R by rw [Hr.out]; simp [s0, s1])
      clear Hr
      go_wp2_with fail
      go_ret
      exact ⟨ret_i HL.out, h4⟩
    cases s2 : (st == 206)
    rotate_left
    · skip
      have HL := Lib.hid (show (2 : Int) = R by rw [Hr.out]; simp [s0, s1, s2])
      clear Hr
      go_wp2_with fail
      go_ret
      exact ⟨ret_i HL.out, h4⟩
    cases s3 : (st == 304)
    rotate_left
    · skip
      have HL := Lib.hid (show (2 : Int) = R by rw [Hr.out]; simp [s0, s1, s2, s3])
      clear Hr
      go_wp2_with fail
      go_ret
      exact ⟨ret_i HL.out, h4⟩
    go_wp2_with fail
    refine (HC.out _).mono ?_; rintro e w5 ⟨rfl, hb5⟩
    have h5 := h4.trans hb5
    replace d0 := hb5.cell d0; replace d2 := hb5.cell d2; replace dq := hb5.cell dq; clear hb5
    cases C
    rotate_left
    · skip
      cases h0 : D.b0
      rotate_left
      · skip
        rw [h0] at d0
        have HL := Lib.hid (show (3 : Int) = R by rw [Hr.out]; simp [s0, s1, s2, s3, h0])
        clear Hr
        go_wp2_with fail
        go_ret
        exact ⟨ret_i HL.out, h5⟩
      rw [h0] at d0
      cases hq : Q.b0
      rotate_left
      · skip
        rw [hq] at dq
        have HL := Lib.hid (show (3 : Int) = R by rw [Hr.out]; simp [s0, s1, s2, s3, h0, hq])
        clear Hr
        go_wp2_with fail
        go_ret
        exact ⟨ret_i HL.out, h5⟩
      rw [hq] at dq
      cases hd2 : D.b2
      rotate_left
      · skip
        rw [hd2] at d2
        have HL := Lib.hid (show (4 : Int) = R by rw [Hr.out]; simp [s0, s1, s2, s3, h0, hq, hd2])
        clear Hr
        go_wp2_with fail
        go_ret
        exact ⟨ret_i HL.out, h5⟩
      rw [hd2] at d2
      go_wp2_with fail
      refine (HS.out _ h5).mono ?_; rintro e w21 ⟨A21, n21, c21, rfl, hr21, hc21, hb21⟩
      have h21 := h5.trans hb21
      replace d0 := hb21.cell d0; replace d2 := hb21.cell d2; replace dq := hb21.cell dq; clear hb21
      have hl21 := hr21.lenS
      have hm21 : n21 ≤ 1073741824 := by have := Hl1.out; omega
      clear hr21
      rcases Nat.eq_zero_or_pos n21 with hp21 | hp21
      rotate_left
      · skip
        obtain rfl : true = sc := by rw [Hh1.out, decide_eq_true (by omega)]
        clear hl21
        have HL := Lib.hid (show (5 : Int) = R by rw [Hr.out]; simp [s0, s1, s2, s3, h0, hq, hd2])
        clear Hr
        go_wp2_with fail
        go_ret
        exact ⟨ret_i HL.out, h21⟩
      obtain rfl : false = sc := by rw [Hh1.out, decide_eq_false (by omega)]
      subst hp21
      clear hl21 hm21
      go_wp2_with fail
      refine (HV.out _ h21).mono ?_; rintro e w22 ⟨rfl, hb22⟩
      have h22 := h21.trans hb22
      replace d0 := hb22.cell d0; replace d2 := hb22.cell d2; replace dq := hb22.cell dq; clear hb22
      cases sf
      rotate_left
      · skip
        have HL := Lib.hid (show (6 : Int) = R by rw [Hr.out]; simp [s0, s1, s2, s3, h0, hq, hd2])
        clear Hr
        go_wp2_with fail
        go_ret
        exact ⟨ret_i HL.out, h22⟩
      go_wp2_with fail
      refine (HA.out _ h22).mono ?_; rintro e w23 ⟨A23, n23, c23, rfl, hr23, hc23, hb23⟩
      have h23 := h22.trans hb23
      replace d0 := hb23.cell d0; replace d2 := hb23.cell d2; replace dq := hb23.cell dq; clear hb23
      have hl23 := hr23.lenS
      have hm23 : n23 ≤ 1073741824 := by have := Hl2.out; omega
      clear hr23
      rcases Nat.eq_zero_or_pos n23 with hp23 | hp23
      rotate_left
      · skip
        obtain rfl : true = au := by rw [Hh2.out, decide_eq_true (by omega)]
        clear hl23
        cases hk : (k2 == 5)
        · skip
          have HL := Lib.hid (show (0 : Int) = R by rw [Hr.out]; simp [s0, s1, s2, s3, h0, hq, hd2, hk])
          clear Hr
          go_wp2_with fail
          go_ret
          exact ⟨ret_i HL.out, h23⟩
        have hk5 : k2 = 5 := by simpa using hk
        go_wp2_with fail
        refine (HM.out _ h23).mono ?_; rintro e w30 ⟨rfl, hb30⟩
        have h30 := h23.trans hb30
        replace d0 := hb30.cell d0; replace d2 := hb30.cell d2; replace dq := hb30.cell dq; clear hb30
        cases M
        · skip
          have HL := Lib.hid (show (8 : Int) = R by rw [Hr.out]; simp [s0, s1, s2, s3, h0, hq, hd2, hk])
          clear Hr
          go_wp2_with fail
          go_ret
          exact ⟨ret_i HL.out, h30⟩
        · skip
          have HL := Lib.hid (show (0 : Int) = R by rw [Hr.out]; simp [s0, s1, s2, s3, h0, hq, hd2, hk])
          clear Hr
          go_wp2_with fail
          go_ret
          exact ⟨ret_i HL.out, h30⟩
      obtain rfl : false = au := by rw [Hh2.out, decide_eq_false (by omega)]
      subst hp23
      clear hl23 hm23
      cases hk : (k2 == 5)
      · skip
        have HL := Lib.hid (show (0 : Int) = R by rw [Hr.out]; simp [s0, s1, s2, s3, h0, hq, hd2, hk])
        clear Hr
        go_wp2_with fail
        go_ret
        exact ⟨ret_i HL.out, h23⟩
      have hk5 : k2 = 5 := by simpa using hk
      go_wp2_with fail
      refine (HM.out _ h23).mono ?_; rintro e w30 ⟨rfl, hb30⟩
      have h30 := h23.trans hb30
      replace d0 := hb30.cell d0; replace d2 := hb30.cell d2; replace dq := hb30.cell dq; clear hb30
      cases M
      · skip
        have HL := Lib.hid (show (8 : Int) = R by rw [Hr.out]; simp [s0, s1, s2, s3, h0, hq, hd2, hk])
        clear Hr
        go_wp2_with fail
        go_ret
        exact ⟨ret_i HL.out, h30⟩
      · skip
        have HL := Lib.hid (show (0 : Int) = R by rw [Hr.out]; simp [s0, s1, s2, s3, h0, hq, hd2, hk])
        clear Hr
        go_wp2_with fail
        go_ret
        exact ⟨ret_i HL.out, h30⟩
    go_wp2_with fail
    refine (HX.out _ h5).mono ?_; rintro e w6 ⟨rfl, hb6⟩
    have h6 := h5.trans hb6
    replace d0 := hb6.cell d0; replace d2 := hb6.cell d2; replace dq := hb6.cell dq; clear hb6
    cases X
    · skip
      have HL := Lib.hid (show (2 : Int) = R by rw [Hr.out]; simp [s0, s1, s2, s3])
      clear Hr
      go_wp2_with fail
      go_ret
      exact ⟨ret_i HL.out, h6⟩
    · skip
      cases h0 : D.b0
      rotate_left
      · skip
        rw [h0] at d0
        have HL := Lib.hid (show (3 : Int) = R by rw [Hr.out]; simp [s0, s1, s2, s3, h0])
        clear Hr
        go_wp2_with fail
        go_ret
        exact ⟨ret_i HL.out, h6⟩
      rw [h0] at d0
      cases hq : Q.b0
      rotate_left
      · skip
        rw [hq] at dq
        have HL := Lib.hid (show (3 : Int) = R by rw [Hr.out]; simp [s0, s1, s2, s3, h0, hq])
        clear Hr
        go_wp2_with fail
        go_ret
        exact ⟨ret_i HL.out, h6⟩
      rw [hq] at dq
      cases hd2 : D.b2
      rotate_left
      · skip
        rw [hd2] at d2
        have HL := Lib.hid (show (4 : Int) = R by rw [Hr.out]; simp [s0, s1, s2, s3, h0, hq, hd2])
        clear Hr
        go_wp2_with fail
        go_ret
        exact ⟨ret_i HL.out, h6⟩
      rw [hd2] at d2
      go_wp2_with fail
      refine (HS.out _ h6).mono ?_; rintro e w21 ⟨A21, n21, c21, rfl, hr21, hc21, hb21⟩
      have h21 := h6.trans hb21
      replace d0 := hb21.cell d0; replace d2 := hb21.cell d2; replace dq := hb21.cell dq; clear hb21
      have hl21 := hr21.lenS
      have hm21 : n21 ≤ 1073741824 := by have := Hl1.out; omega
      clear hr21
      rcases Nat.eq_zero_or_pos n21 with hp21 | hp21
      rotate_left
      · skip
        obtain rfl : true = sc := by rw [Hh1.out, decide_eq_true (by omega)]
        clear hl21
        have HL := Lib.hid (show (5 : Int) = R by rw [Hr.out]; simp [s0, s1, s2, s3, h0, hq, hd2])
        clear Hr
        go_wp2_with fail
        go_ret
        exact ⟨ret_i HL.out, h21⟩
      obtain rfl : false = sc := by rw [Hh1.out, decide_eq_false (by omega)]
      subst hp21
      clear hl21 hm21
      go_wp2_with fail
      refine (HV.out _ h21).mono ?_; rintro e w22 ⟨rfl, hb22⟩
      have h22 := h21.trans hb22
      replace d0 := hb22.cell d0; replace d2 := hb22.cell d2; replace dq := hb22.cell dq; clear hb22
      cases sf
      rotate_left
      · skip
        have HL := Lib.hid (show (6 : Int) = R by rw [Hr.out]; simp [s0, s1, s2, s3, h0, hq, hd2])
        clear Hr
        go_wp2_with fail
        go_ret
        exact ⟨ret_i HL.out, h22⟩
      go_wp2_with fail
      refine (HA.out _ h22).mono ?_; rintro e w23 ⟨A23, n23, c23, rfl, hr23, hc23, hb23⟩
      have h23 := h22.trans hb23
      replace d0 := hb23.cell d0; replace d2 := hb23.cell d2; replace dq := hb23.cell dq; clear hb23
      have hl23 := hr23.lenS
      have hm23 : n23 ≤ 1073741824 := by have := Hl2.out; omega
      clear hr23
      rcases Nat.eq_zero_or_pos n23 with hp23 | hp23
      rotate_left
      · skip
        obtain rfl : true = au := by rw [Hh2.out, decide_eq_true (by omega)]
        clear hl23
        cases hk : (k2 == 5)
        · skip
          have HL := Lib.hid (show (0 : Int) = R by rw [Hr.out]; simp [s0, s1, s2, s3, h0, hq, hd2, hk])
          clear Hr
          go_wp2_with fail
          go_ret
          exact ⟨ret_i HL.out, h23⟩
        have hk5 : k2 = 5 := by simpa using hk
        go_wp2_with fail
        refine (HM.out _ h23).mono ?_; rintro e w30 ⟨rfl, hb30⟩
        have h30 := h23.trans hb30
        replace d0 := hb30.cell d0; replace d2 := hb30.cell d2; replace dq := hb30.cell dq; clear hb30
        cases M
        · skip
          have HL := Lib.hid (show (8 : Int) = R by rw [Hr.out]; simp [s0, s1, s2, s3, h0, hq, hd2, hk])
          clear Hr
          go_wp2_with fail
          go_ret
          exact ⟨ret_i HL.out, h30⟩
        · skip
          have HL := Lib.hid (show (0 : Int) = R by rw [Hr.out]; simp [s0, s1, s2, s3, h0, hq, hd2, hk])
          clear Hr
          go_wp2_with fail
          go_ret
          exact ⟨ret_i HL.out, h30⟩
      obtain rfl : false = au := by rw [Hh2.out, decide_eq_false (by omega)]
      subst hp23
      clear hl23 hm23
      cases hk : (k2 == 5)
      · skip
        have HL := Lib.hid (show (0 : Int) = R by rw [Hr.out]; simp [s0, s1, s2, s3, h0, hq, hd2, hk])
        clear Hr
        go_wp2_with fail
        go_ret
        exact ⟨ret_i HL.out, h23⟩
      have hk5 : k2 = 5 := by simpa using hk
      go_wp2_with fail
      refine (HM.out _ h23).mono ?_; rintro e w30 ⟨rfl, hb30⟩
      have h30 := h23.trans hb30
      replace d0 := hb30.cell d0; replace d2 := hb30.cell d2; replace dq := hb30.cell dq; clear hb30
      cases M
      · skip
        have HL := Lib.hid (show (8 : Int) = R by rw [Hr.out]; simp [s0, s1, s2, s3, h0, hq, hd2, hk])
        clear Hr
        go_wp2_with fail
        go_ret
        exact ⟨ret_i HL.out, h30⟩
      · skip
        have HL := Lib.hid (show (0 : Int) = R by rw [Hr.out]; simp [s0, s1, s2, s3, h0, hq, hd2, hk])
        clear Hr
        go_wp2_with fail
        go_ret
        exact ⟨ret_i HL.out, h30⟩
  rw [h3] at d3
  cases h4b : D.b4
  rotate_left
  · skip
    rw [h4b] at d4
    obtain rfl : true = al := by rw [← hal]; simp [*]
    clear hal hal2
    cases G
    · skip
      have hme : (me.toList == [71, 69, 84]) = false := HGG.out
      have HL := Lib.hid (show (1 : Int) = R by rw [Hr.out]; simp [])
      clear Hr
      go_wp2_with fail
      go_ret
      exact ⟨ret_i HL.out, h4⟩
    have hme : (me.toList == [71, 69, 84]) = true := HGG.out
    by_cases s0 : st < 200
    · skip
      have HL := Lib.hid (show (2 : Int) = R by rw [Hr.out]; simp [s0])
      clear Hr
      go_wp2_with fail
      go_ret
      exact ⟨ret_i HL.out, h4⟩
    by_cases s1 : 599 < st
    · skip
      have HL := Lib.hid (show (2 : Int) = R by rw [Hr.out]; simp [s0, s1])
      clear Hr
      go_wp2_with fail
      go_ret
      exact ⟨ret_i HL.out, h4⟩
    cases s2 : (st == 206)
    rotate_left
    · skip
      have HL := Lib.hid (show (2 : Int) = R by rw [Hr.out]; simp [s0, s1, s2])
      clear Hr
      go_wp2_with fail
      go_ret
      exact ⟨ret_i HL.out, h4⟩
    cases s3 : (st == 304)
    rotate_left
    · skip
      have HL := Lib.hid (show (2 : Int) = R by rw [Hr.out]; simp [s0, s1, s2, s3])
      clear Hr
      go_wp2_with fail
      go_ret
      exact ⟨ret_i HL.out, h4⟩
    go_wp2_with fail
    refine (HC.out _).mono ?_; rintro e w5 ⟨rfl, hb5⟩
    have h5 := h4.trans hb5
    replace d0 := hb5.cell d0; replace d2 := hb5.cell d2; replace dq := hb5.cell dq; clear hb5
    cases C
    rotate_left
    · skip
      cases h0 : D.b0
      rotate_left
      · skip
        rw [h0] at d0
        have HL := Lib.hid (show (3 : Int) = R by rw [Hr.out]; simp [s0, s1, s2, s3, h0])
        clear Hr
        go_wp2_with fail
        go_ret
        exact ⟨ret_i HL.out, h5⟩
      rw [h0] at d0
      cases hq : Q.b0
      rotate_left
      · skip
        rw [hq] at dq
        have HL := Lib.hid (show (3 : Int) = R by rw [Hr.out]; simp [s0, s1, s2, s3, h0, hq])
        clear Hr
        go_wp2_with fail
        go_ret
        exact ⟨ret_i HL.out, h5⟩
      rw [hq] at dq
      cases hd2 : D.b2
      rotate_left
      · skip
        rw [hd2] at d2
        have HL := Lib.hid (show (4 : Int) = R by rw [Hr.out]; simp [s0, s1, s2, s3, h0, hq, hd2])
        clear Hr
        go_wp2_with fail
        go_ret
        exact ⟨ret_i HL.out, h5⟩
      rw [hd2] at d2
      go_wp2_with fail
      refine (HS.out _ h5).mono ?_; rintro e w21 ⟨A21, n21, c21, rfl, hr21, hc21, hb21⟩
      have h21 := h5.trans hb21
      replace d0 := hb21.cell d0; replace d2 := hb21.cell d2; replace dq := hb21.cell dq; clear hb21
      have hl21 := hr21.lenS
      have hm21 : n21 ≤ 1073741824 := by have := Hl1.out; omega
      clear hr21
      rcases Nat.eq_zero_or_pos n21 with hp21 | hp21
      rotate_left
      · skip
        obtain rfl : true = sc := by rw [Hh1.out, decide_eq_true (by omega)]
        clear hl21
        have HL := Lib.hid (show (5 : Int) = R by rw [Hr.out]; simp [s0, s1, s2, s3, h0, hq, hd2])
        clear Hr
        go_wp2_with fail
        go_ret
        exact ⟨ret_i HL.out, h21⟩
      obtain rfl : false = sc := by rw [Hh1.out, decide_eq_false (by omega)]
      subst hp21
      clear hl21 hm21
      go_wp2_with fail
      refine (HV.out _ h21).mono ?_; rintro e w22 ⟨rfl, hb22⟩
      have h22 := h21.trans hb22
      replace d0 := hb22.cell d0; replace d2 := hb22.cell d2; replace dq := hb22.cell dq; clear hb22
      cases sf
      rotate_left
      · skip
        have HL := Lib.hid (show (6 : Int) = R by rw [Hr.out]; simp [s0, s1, s2, s3, h0, hq, hd2])
        clear Hr
        go_wp2_with fail
        go_ret
        exact ⟨ret_i HL.out, h22⟩
      go_wp2_with fail
      refine (HA.out _ h22).mono ?_; rintro e w23 ⟨A23, n23, c23, rfl, hr23, hc23, hb23⟩
      have h23 := h22.trans hb23
      replace d0 := hb23.cell d0; replace d2 := hb23.cell d2; replace dq := hb23.cell dq; clear hb23
      have hl23 := hr23.lenS
      have hm23 : n23 ≤ 1073741824 := by have := Hl2.out; omega
      clear hr23
      rcases Nat.eq_zero_or_pos n23 with hp23 | hp23
      rotate_left
      · skip
        obtain rfl : true = au := by rw [Hh2.out, decide_eq_true (by omega)]
        clear hl23
        cases hk : (k2 == 5)
        · skip
          have HL := Lib.hid (show (0 : Int) = R by rw [Hr.out]; simp [s0, s1, s2, s3, h0, hq, hd2, hk])
          clear Hr
          go_wp2_with fail
          go_ret
          exact ⟨ret_i HL.out, h23⟩
        have hk5 : k2 = 5 := by simpa using hk
        go_wp2_with fail
        refine (HM.out _ h23).mono ?_; rintro e w30 ⟨rfl, hb30⟩
        have h30 := h23.trans hb30
        replace d0 := hb30.cell d0; replace d2 := hb30.cell d2; replace dq := hb30.cell dq; clear hb30
        cases M
        · skip
          have HL := Lib.hid (show (8 : Int) = R by rw [Hr.out]; simp [s0, s1, s2, s3, h0, hq, hd2, hk])
          clear Hr
          go_wp2_with fail
          go_ret
          exact ⟨ret_i HL.out, h30⟩
        · skip
          have HL := Lib.hid (show (0 : Int) = R by rw [Hr.out]; simp [s0, s1, s2, s3, h0, hq, hd2, hk])
          clear Hr
          go_wp2_with fail
          go_ret
          exact ⟨ret_i HL.out, h30⟩
      obtain rfl : false = au := by rw [Hh2.out, decide_eq_false (by omega)]
      subst hp23
      clear hl23 hm23
      cases hk : (k2 == 5)
      · skip
        have HL := Lib.hid (show (0 : Int) = R by rw [Hr.out]; simp [s0, s1, s2, s3, h0, hq, hd2, hk])
        clear Hr
        go_wp2_with fail
        go_ret
        exact ⟨ret_i HL.out, h23⟩
      have hk5 : k2 = 5 := by simpa using hk
      go_wp2_with fail
      refine (HM.out _ h23).mono ?_; rintro e w30 ⟨rfl, hb30⟩
      have h30 := h23.trans hb30
      replace d0 := hb30.cell d0; replace d2 := hb30.cell d2; replace dq := hb30.cell dq; clear hb30
      cases M
      · skip
        have HL := Lib.hid (show (8 : Int) = R by rw [Hr.out]; simp [s0, s1, s2, s3, h0, hq, hd2, hk])
        clear Hr
        go_wp2_with fail
        go_ret
        exact ⟨ret_i HL.out, h30⟩
      · skip
        have HL := Lib.hid (show (0 : Int) = R by rw [Hr.out]; simp [s0, s1, s2, s3, h0, hq, hd2, hk])
        clear Hr
        go_wp2_with fail
        go_ret
        exact ⟨ret_i HL.out, h30⟩
    go_wp2_with fail
    refine (HX.out _ h5).mono ?_; rintro e w6 ⟨rfl, hb6⟩
    have h6 := h5.trans hb6
    replace d0 := hb6.cell d0; replace d2 := hb6.cell d2; replace dq := hb6.cell dq; clear hb6
    cases X
    · skip
      have HL := Lib.hid (show (2 : Int) = R by rw [Hr.out]; simp [s0, s1, s2, s3])
      clear Hr
      go_wp2_with fail
      go_ret
      exact ⟨ret_i HL.out, h6⟩
    · skip
      cases h0 : D.b0
      rotate_left
      · skip
        rw [h0] at d0
        have HL := Lib.hid (show (3 : Int) = R by rw [Hr.out]; simp [s0, s1, s2, s3, h0])
        clear Hr
        go_wp2_with fail
        go_ret
        exact ⟨ret_i HL.out, h6⟩
      rw [h0] at d0
      cases hq : Q.b0
      rotate_left
      · skip
        rw [hq] at dq
        have HL := Lib.hid (show (3 : Int) = R by rw [Hr.out]; simp [s0, s1, s2, s3, h0, hq])
        clear Hr
        go_wp2_with fail
        go_ret
        exact ⟨ret_i HL.out, h6⟩
      rw [hq] at dq
      cases hd2 : D.b2
      rotate_left
      · skip
        rw [hd2] at d2
        have HL := Lib.hid (show (4 : Int) = R by rw [Hr.out]; simp [s0, s1, s2, s3, h0, hq, hd2])
        clear Hr
        go_wp2_with fail
        go_ret
        exact ⟨ret_i HL.out, h6⟩
      rw [hd2] at d2
      go_wp2_with fail
      refine (HS.out _ h6).mono ?_; rintro e w21 ⟨A21, n21, c21, rfl, hr21, hc21, hb21⟩
      have h21 := h6.trans hb21
      replace d0 := hb21.cell d0; replace d2 := hb21.cell d2; replace dq := hb21.cell dq; clear hb21
      have hl21 := hr21.lenS
      have hm21 : n21 ≤ 1073741824 := by have := Hl1.out; omega
      clear hr21
      rcases Nat.eq_zero_or_pos n21 with hp21 | hp21
      rotate_left
      · skip
        obtain rfl : true = sc := by rw [Hh1.out, decide_eq_true (by omega)]
        clear hl21
        have HL := Lib.hid (show (5 : Int) = R by rw [Hr.out]; simp [s0, s1, s2, s3, h0, hq, hd2])
        clear Hr
        go_wp2_with fail
        go_ret
        exact ⟨ret_i HL.out, h21⟩
      obtain rfl : false = sc := by rw [Hh1.out, decide_eq_false (by omega)]
      subst hp21
      clear hl21 hm21
      go_wp2_with fail
      refine (HV.out _ h21).mono ?_; rintro e w22 ⟨rfl, hb22⟩
      have h22 := h21.trans hb22
      replace d0 := hb22.cell d0; replace d2 := hb22.cell d2; replace dq := hb22.cell dq; clear hb22
      cases sf
      rotate_left
      · skip
        have HL := Lib.hid (show (6 : Int) = R by rw [Hr.out]; simp [s0, s1, s2, s3, h0, hq, hd2])
        clear Hr
        go_wp2_with fail
        go_ret
        exact ⟨ret_i HL.out, h22⟩
      go_wp2_with fail
      refine (HA.out _ h22).mono ?_; rintro e w23 ⟨A23, n23, c23, rfl, hr23, hc23, hb23⟩
      have h23 := h22.trans hb23
      replace d0 := hb23.cell d0; replace d2 := hb23.cell d2; replace dq := hb23.cell dq; clear hb23
      have hl23 := hr23.lenS
      have hm23 : n23 ≤ 1073741824 := by have := Hl2.out; omega
      clear hr23
      rcases Nat.eq_zero_or_pos n23 with hp23 | hp23
      rotate_left
      · skip
        obtain rfl : true = au := by rw [Hh2.out, decide_eq_true (by omega)]
        clear hl23
        cases hk : (k2 == 5)
        · skip
          have HL := Lib.hid (show (0 : Int) = R by rw [Hr.out]; simp [s0, s1, s2, s3, h0, hq, hd2, hk])
          clear Hr
          go_wp2_with fail
          go_ret
          exact ⟨ret_i HL.out, h23⟩
        have hk5 : k2 = 5 := by simpa using hk
        go_wp2_with fail
        refine (HM.out _ h23).mono ?_; rintro e w30 ⟨rfl, hb30⟩
        have h30 := h23.trans hb30
        replace d0 := hb30.cell d0; replace d2 := hb30.cell d2; replace dq := hb30.cell dq; clear hb30
        cases M
        · skip
          have HL := Lib.hid (show (8 : Int) = R by rw [Hr.out]; simp [s0, s1, s2, s3, h0, hq, hd2, hk])
          clear Hr
          go_wp2_with fail
          go_ret
          exact ⟨ret_i HL.out, h30⟩
        · skip
          have HL := Lib.hid (show (0 : Int) = R by rw [Hr.out]; simp [s0, s1, s2, s3, h0, hq, hd2, hk])
          clear Hr
          go_wp2_with fail
          go_ret
          exact ⟨ret_i HL.out, h30⟩
      obtain rfl : false = au := by rw [Hh2.out, decide_eq_false (by omega)]
      subst hp23
      clear hl23 hm23
      cases hk : (k2 == 5)
      · skip
        have HL := Lib.hid (show (0 : Int) = R by rw [Hr.out]; simp [s0, s1, s2, s3, h0, hq, hd2, hk])
        clear Hr
        go_wp2_with fail
        go_ret
        exact ⟨ret_i HL.out, h23⟩
      have hk5 : k2 = 5 := by simpa using hk
      go_wp2_with fail
      refine (HM.out _ h23).mono ?_; rintro e w30 ⟨rfl, hb30⟩
      have h30 := h23.trans hb30
      replace d0 := hb30.cell d0; replace d2 := hb30.cell d2; replace dq := hb30.cell dq; clear hb30
      cases M
      · skip
        have HL := Lib.hid (show (8 : Int) = R by rw [Hr.out]; simp [s0, s1, s2, s3, h0, hq, hd2, hk])
        clear Hr
        go_wp2_with fail
        go_ret
        exact ⟨ret_i HL.out, h30⟩
      · skip
        have HL := Lib.hid (show (0 : Int) = R by rw [Hr.out]; simp [s0, s1, s2, s3, h0, hq, hd2, hk])
        clear Hr
        go_wp2_with fail
        go_ret
        exact ⟨ret_i HL.out, h30⟩
  rw [h4b] at d4
  by_cases hn1 : 0 ≤ D.n1
  · skip
    have hdn : decide (0 ≤ D.n1) = true := decide_eq_true hn1
    obtain rfl : true = al := by rw [← hal]; simp [*]
    clear hal hal2
    cases G
    · skip
      have hme : (me.toList == [71, 69, 84]) = false := HGG.out
      have HL := Lib.hid (show (1 : Int) = R by rw [Hr.out]; simp [])
      clear Hr
      go_wp2_with fail
      go_ret
      exact ⟨ret_i HL.out, h4⟩
    have hme : (me.toList == [71, 69, 84]) = true := HGG.out
    by_cases s0 : st < 200
    · skip
      have HL := Lib.hid (show (2 : Int) = R by rw [Hr.out]; simp [s0])
      clear Hr
      go_wp2_with fail
      go_ret
      exact ⟨ret_i HL.out, h4⟩
    by_cases s1 : 599 < st
    · skip
      have HL := Lib.hid (show (2 : Int) = R by rw [Hr.out]; simp [s0, s1])
      clear Hr
      go_wp2_with fail
      go_ret
      exact ⟨ret_i HL.out, h4⟩
    cases s2 : (st == 206)
    rotate_left
    · skip
      have HL := Lib.hid (show (2 : Int) = R by rw [Hr.out]; simp [s0, s1, s2])
      clear Hr
      go_wp2_with fail
      go_ret
      exact ⟨ret_i HL.out, h4⟩
    cases s3 : (st == 304)
    rotate_left
    · skip
      have HL := Lib.hid (show (2 : Int) = R by rw [Hr.out]; simp [s0, s1, s2, s3])
      clear Hr
      go_wp2_with fail
      go_ret
      exact ⟨ret_i HL.out, h4⟩
    go_wp2_with fail
    refine (HC.out _).mono ?_; rintro e w5 ⟨rfl, hb5⟩
    have h5 := h4.trans hb5
    replace d0 := hb5.cell d0; replace d2 := hb5.cell d2; replace dq := hb5.cell dq; clear hb5
    cases C
    rotate_left
    · skip
      cases h0 : D.b0
      rotate_left
      · skip
        rw [h0] at d0
        have HL := Lib.hid (show (3 : Int) = R by rw [Hr.out]; simp [s0, s1, s2, s3, h0])
        clear Hr
        go_wp2_with fail
        go_ret
        exact ⟨ret_i HL.out, h5⟩
      rw [h0] at d0
      cases hq : Q.b0
      rotate_left
      · skip
        rw [hq] at dq
        have HL := Lib.hid (show (3 : Int) = R by rw [Hr.out]; simp [s0, s1, s2, s3, h0, hq])
        clear Hr
        go_wp2_with fail
        go_ret
        exact ⟨ret_i HL.out, h5⟩
      rw [hq] at dq
      cases hd2 : D.b2
      rotate_left
      · skip
        rw [hd2] at d2
        have HL := Lib.hid (show (4 : Int) = R by rw [Hr.out]; simp [s0, s1, s2, s3, h0, hq, hd2])
        clear Hr
        go_wp2_with fail
        go_ret
        exact ⟨ret_i HL.out, h5⟩
      rw [hd2] at d2
      go_wp2_with fail
      refine (HS.out _ h5).mono ?_; rintro e w21 ⟨A21, n21, c21, rfl, hr21, hc21, hb21⟩
      have h21 := h5.trans hb21
      replace d0 := hb21.cell d0; replace d2 := hb21.cell d2; replace dq := hb21.cell dq; clear hb21
      have hl21 := hr21.lenS
      have hm21 : n21 ≤ 1073741824 := by have := Hl1.out; omega
      clear hr21
      rcases Nat.eq_zero_or_pos n21 with hp21 | hp21
      rotate_left
      · skip
        obtain rfl : true = sc := by rw [Hh1.out, decide_eq_true (by omega)]
        clear hl21
        have HL := Lib.hid (show (5 : Int) = R by rw [Hr.out]; simp [s0, s1, s2, s3, h0, hq, hd2])
        clear Hr
        go_wp2_with fail
        go_ret
        exact ⟨ret_i HL.out, h21⟩
      obtain rfl : false = sc := by rw [Hh1.out, decide_eq_false (by omega)]
      subst hp21
      clear hl21 hm21
      go_wp2_with fail
      refine (HV.out _ h21).mono ?_; rintro e w22 ⟨rfl, hb22⟩
      have h22 := h21.trans hb22
      replace d0 := hb22.cell d0; replace d2 := hb22.cell d2; replace dq := hb22.cell dq; clear hb22
      cases sf
      rotate_left
      · skip
        have HL := Lib.hid (show (6 : Int) = R by rw [Hr.out]; simp [s0, s1, s2, s3, h0, hq, hd2])
        clear Hr
        go_wp2_with fail
        go_ret
        exact ⟨ret_i HL.out, h22⟩
      go_wp2_with fail
      refine (HA.out _ h22).mono ?_; rintro e w23 ⟨A23, n23, c23, rfl, hr23, hc23, hb23⟩
      have h23 := h22.trans hb23
      replace d0 := hb23.cell d0; replace d2 := hb23.cell d2; replace dq := hb23.cell dq; clear hb23
      have hl23 := hr23.lenS
      have hm23 : n23 ≤ 1073741824 := by have := Hl2.out; omega
      clear hr23
      rcases Nat.eq_zero_or_pos n23 with hp23 | hp23
      rotate_left
      · skip
        obtain rfl : true = au := by rw [Hh2.out, decide_eq_true (by omega)]
        clear hl23
        cases hk : (k2 == 5)
        · skip
          have HL := Lib.hid (show (0 : Int) = R by rw [Hr.out]; simp [s0, s1, s2, s3, h0, hq, hd2, hk])
          clear Hr
          go_wp2_with fail
          go_ret
          exact ⟨ret_i HL.out, h23⟩
        have hk5 : k2 = 5 := by simpa using hk
        go_wp2_with fail
        refine (HM.out _ h23).mono ?_; rintro e w30 ⟨rfl, hb30⟩
        have h30 := h23.trans hb30
        replace d0 := hb30.cell d0; replace d2 := hb30.cell d2; replace dq := hb30.cell dq; clear hb30
        cases M
        · skip
          have HL := Lib.hid (show (8 : Int) = R by rw [Hr.out]; simp [s0, s1, s2, s3, h0, hq, hd2, hk])
          clear Hr
          go_wp2_with fail
          go_ret
          exact ⟨ret_i HL.out, h30⟩
        · skip
          have HL := Lib.hid (show (0 : Int) = R by rw [Hr.out]; simp [s0, s1, s2, s3, h0, hq, hd2, hk])
          clear Hr
          go_wp2_with fail
          go_ret
          exact ⟨ret_i HL.out, h30⟩
      obtain rfl : false = au := by rw [Hh2.out, decide_eq_false (by omega)]
      subst hp23
      clear hl23 hm23
      cases hk : (k2 == 5)
      · skip
        have HL := Lib.hid (show (0 : Int) = R by rw [Hr.out]; simp [s0, s1, s2, s3, h0, hq, hd2, hk])
        clear Hr
        go_wp2_with fail
        go_ret
        exact ⟨ret_i HL.out, h23⟩
      have hk5 : k2 = 5 := by simpa using hk
      go_wp2_with fail
      refine (HM.out _ h23).mono ?_; rintro e w30 ⟨rfl, hb30⟩
      have h30 := h23.trans hb30
      replace d0 := hb30.cell d0; replace d2 := hb30.cell d2; replace dq := hb30.cell dq; clear hb30
      cases M
      · skip
        have HL := Lib.hid (show (8 : Int) = R by rw [Hr.out]; simp [s0, s1, s2, s3, h0, hq, hd2, hk])
        clear Hr
        go_wp2_with fail
        go_ret
        exact ⟨ret_i HL.out, h30⟩
      · skip
        have HL := Lib.hid (show (0 : Int) = R by rw [Hr.out]; simp [s0, s1, s2, s3, h0, hq, hd2, hk])
        clear Hr
        go_wp2_with fail
        go_ret
        exact ⟨ret_i HL.out, h30⟩
    go_wp2_with fail
    refine (HX.out _ h5).mono ?_; rintro e w6 ⟨rfl, hb6⟩
    have h6 := h5.trans hb6
    replace d0 := hb6.cell d0; replace d2 := hb6.cell d2; replace dq := hb6.cell dq; clear hb6
    cases X
    · skip
      have HL := Lib.hid (show (2 : Int) = R by rw [Hr.out]; simp [s0, s1, s2, s3])
      clear Hr
      go_wp2_with fail
      go_ret
      exact ⟨ret_i HL.out, h6⟩
    · skip
      cases h0 : D.b0
      rotate_left
      · skip
        rw [h0] at d0
        have HL := Lib.hid (show (3 : Int) = R by rw [Hr.out]; simp [s0, s1, s2, s3, h0])
        clear Hr
        go_wp2_with fail
        go_ret
        exact ⟨ret_i HL.out, h6⟩
      rw [h0] at d0
      cases hq : Q.b0
      rotate_left
      · skip
        rw [hq] at dq
        have HL := Lib.hid (show (3 : Int) = R by rw [Hr.out]; simp [s0, s1, s2, s3, h0, hq])
        clear Hr
        go_wp2_with fail
        go_ret
        exact ⟨ret_i HL.out, h6⟩
      rw [hq] at dq
      cases hd2 : D.b2
      rotate_left
      · skip
        rw [hd2] at d2
        have HL := Lib.hid (show (4 : Int) = R by rw [Hr.out]; simp [s0, s1, s2, s3, h0, hq, hd2])
        clear Hr
        go_wp2_with fail
        go_ret
        exact ⟨ret_i HL.out, h6⟩
      rw [hd2] at d2
      go_wp2_with fail
      refine (HS.out _ h6).mono ?_; rintro e w21 ⟨A21, n21, c21, rfl, hr21, hc21, hb21⟩
      have h21 := h6.trans hb21
      replace d0 := hb21.cell d0; replace d2 := hb21.cell d2; replace dq := hb21.cell dq; clear hb21
      have hl21 := hr21.lenS
      have hm21 : n21 ≤ 1073741824 := by have := Hl1.out; omega
      clear hr21
      rcases Nat.eq_zero_or_pos n21 with hp21 | hp21
      rotate_left
      · skip
        obtain rfl : true = sc := by rw [Hh1.out, decide_eq_true (by omega)]
        clear hl21
        have HL := Lib.hid (show (5 : Int) = R by rw [Hr.out]; simp [s0, s1, s2, s3, h0, hq, hd2])
        clear Hr
        go_wp2_with fail
        go_ret
        exact ⟨ret_i HL.out, h21⟩
      obtain rfl : false = sc := by rw [Hh1.out, decide_eq_false (by omega)]
      subst hp21
      clear hl21 hm21
      go_wp2_with fail
      refine (HV.out _ h21).mono ?_; rintro e w22 ⟨rfl, hb22⟩
      have h22 := h21.trans hb22
      replace d0 := hb22.cell d0; replace d2 := hb22.cell d2; replace dq := hb22.cell dq; clear hb22
      cases sf
      rotate_left
      · skip
        have HL := Lib.hid (show (6 : Int) = R by rw [Hr.out]; simp [s0, s1, s2, s3, h0, hq, hd2])
        clear Hr
        go_wp2_with fail
        go_ret
        exact ⟨ret_i HL.out, h22⟩
      go_wp2_with fail
      refine (HA.out _ h22).mono ?_; rintro e w23 ⟨A23, n23, c23, rfl, hr23, hc23, hb23⟩
      have h23 := h22.trans hb23
      replace d0 := hb23.cell d0; replace d2 := hb23.cell d2; replace dq := hb23.cell dq; clear hb23
      have hl23 := hr23.lenS
      have hm23 : n23 ≤ 1073741824 := by have := Hl2.out; omega
      clear hr23
      rcases Nat.eq_zero_or_pos n23 with hp23 | hp23
      rotate_left
      · skip
        obtain rfl : true = au := by rw [Hh2.out, decide_eq_true (by omega)]
        clear hl23
        cases hk : (k2 == 5)
        · skip
          have HL := Lib.hid (show (0 : Int) = R by rw [Hr.out]; simp [s0, s1, s2, s3, h0, hq, hd2, hk])
          clear Hr
          go_wp2_with fail
          go_ret
          exact ⟨ret_i HL.out, h23⟩
        have hk5 : k2 = 5 := by simpa using hk
        go_wp2_with fail
        refine (HM.out _ h23).mono ?_; rintro e w30 ⟨rfl, hb30⟩
        have h30 := h23.trans hb30
        replace d0 := hb30.cell d0; replace d2 := hb30.cell d2; replace dq := hb30.cell dq; clear hb30
        cases M
        · skip
          have HL := Lib.hid (show (8 : Int) = R by rw [Hr.out]; simp [s0, s1, s2, s3, h0, hq, hd2, hk])
          clear Hr
          go_wp2_with fail
          go_ret
          exact ⟨ret_i HL.out, h30⟩
        · skip
          have HL := Lib.hid (show (0 : Int) = R by rw [Hr.out]; simp [s0, s1, s2, s3, h0, hq, hd2, hk])
          clear Hr
          go_wp2_with fail
          go_ret
          exact ⟨ret_i HL.out, h30⟩
      obtain rfl : false = au := by rw [Hh2.out, decide_eq_false (by omega)]
      subst hp23
      clear hl23 hm23
      cases hk : (k2 == 5)
      · skip
        have HL := Lib.hid (show (0 : Int) = R by rw [Hr.out]; simp [s0, s1, s2, s3, h0, hq, hd2, hk])
        clear Hr
        go_wp2_with fail
        go_ret
        exact ⟨ret_i HL.out, h23⟩
      have hk5 : k2 = 5 := by simpa using hk
      go_wp2_with fail
      refine (HM.out _ h23).mono ?_; rintro e w30 ⟨rfl, hb30⟩
      have h30 := h23.trans hb30
      replace d0 := hb30.cell d0; replace d2 := hb30.cell d2; replace dq := hb30.cell dq; clear hb30
      cases M
      · skip
        have HL := Lib.hid (show (8 : Int) = R by rw [Hr.out]; simp [s0, s1, s2, s3, h0, hq, hd2, hk])
        clear Hr
        go_wp2_with fail
        go_ret
        exact ⟨ret_i HL.out, h30⟩
      · skip
        have HL := Lib.hid (show (0 : Int) = R by rw [Hr.out]; simp [s0, s1, s2, s3, h0, hq, hd2, hk])
        clear Hr
        go_wp2_with fail
        go_ret
        exact ⟨ret_i HL.out, h30⟩
  · skip
    have hdn : decide (0 ≤ D.n1) = false := decide_eq_false hn1
    have hlt0 : D.n1 < 0 := by omega
    obtain rfl : false = al := by rw [← hal]; simp [*]
    clear hal hal2
    cases G
    · skip
      have hme : (me.toList == [71, 69, 84]) = false := HGG.out
      have HL := Lib.hid (show (1 : Int) = R by rw [Hr.out]; simp [])
      clear Hr
      go_wp2_with fail
      go_ret
      exact ⟨ret_i HL.out, h4⟩
    have hme : (me.toList == [71, 69, 84]) = true := HGG.out
    by_cases s0 : st < 200
    · skip
      have HL := Lib.hid (show (2 : Int) = R by rw [Hr.out]; simp [s0])
      clear Hr
      go_wp2_with fail
      go_ret
      exact ⟨ret_i HL.out, h4⟩
    by_cases s1 : 599 < st
    · skip
      have HL := Lib.hid (show (2 : Int) = R by rw [Hr.out]; simp [s0, s1])
      clear Hr
      go_wp2_with fail
      go_ret
      exact ⟨ret_i HL.out, h4⟩
    cases s2 : (st == 206)
    rotate_left
    · skip
      have HL := Lib.hid (show (2 : Int) = R by rw [Hr.out]; simp [s0, s1, s2])
      clear Hr
      go_wp2_with fail
      go_ret
      exact ⟨ret_i HL.out, h4⟩
    cases s3 : (st == 304)
    rotate_left
    · skip
      have HL := Lib.hid (show (2 : Int) = R by rw [Hr.out]; simp [s0, s1, s2, s3])
      clear Hr
      go_wp2_with fail
      go_ret
      exact ⟨ret_i HL.out, h4⟩
    go_wp2_with fail
    refine (HC.out _).mono ?_; rintro e w5 ⟨rfl, hb5⟩
    have h5 := h4.trans hb5
    replace d0 := hb5.cell d0; replace d2 := hb5.cell d2; replace dq := hb5.cell dq; clear hb5
    cases C
    rotate_left
    · skip
      cases h0 : D.b0
      rotate_left
      · skip
        rw [h0] at d0
        have HL := Lib.hid (show (3 : Int) = R by rw [Hr.out]; simp [s0, s1, s2, s3, h0])
        clear Hr
        go_wp2_with fail
        go_ret
        exact ⟨ret_i HL.out, h5⟩
      rw [h0] at d0
      cases hq : Q.b0
      rotate_left
      · skip
        rw [hq] at dq
        have HL := Lib.hid (show (3 : Int) = R by rw [Hr.out]; simp [s0, s1, s2, s3, h0, hq])
        clear Hr
        go_wp2_with fail
        go_ret
        exact ⟨ret_i HL.out, h5⟩
      rw [hq] at dq
      cases hd2 : D.b2
      rotate_left
      · skip
        rw [hd2] at d2
        have HL := Lib.hid (show (4 : Int) = R by rw [Hr.out]; simp [s0, s1, s2, s3, h0, hq, hd2])
        clear Hr
        go_wp2_with fail
        go_ret
        exact ⟨ret_i HL.out, h5⟩
      rw [hd2] at d2
      go_wp2_with fail
      refine (HS.out _ h5).mono ?_; rintro e w21 ⟨A21, n21, c21, rfl, hr21, hc21, hb21⟩
      have h21 := h5.trans hb21
      replace d0 := hb21.cell d0; replace d2 := hb21.cell d2; replace dq := hb21.cell dq; clear hb21
      have hl21 := hr21.lenS
      have hm21 : n21 ≤ 1073741824 := by have := Hl1.out; omega
      clear hr21
      rcases Nat.eq_zero_or_pos n21 with hp21 | hp21
      rotate_left
      · skip
        obtain rfl : true = sc := by rw [Hh1.out, decide_eq_true (by omega)]
        clear hl21
        have HL := Lib.hid (show (5 : Int) = R by rw [Hr.out]; simp [s0, s1, s2, s3, h0, hq, hd2])
        clear Hr
        go_wp2_with fail
        go_ret
        exact ⟨ret_i HL.out, h21⟩
      obtain rfl : false = sc := by rw [Hh1.out, decide_eq_false (by omega)]
      subst hp21
      clear hl21 hm21
      go_wp2_with fail
      refine (HV.out _ h21).mono ?_; rintro e w22 ⟨rfl, hb22⟩
      have h22 := h21.trans hb22
      replace d0 := hb22.cell d0; replace d2 := hb22.cell d2; replace dq := hb22.cell dq; clear hb22
      cases sf
      rotate_left
      · skip
        have HL := Lib.hid (show (6 : Int) = R by rw [Hr.out]; simp [s0, s1, s2, s3, h0, hq, hd2])
        clear Hr
        go_wp2_with fail
        go_ret
        exact ⟨ret_i HL.out, h22⟩
      go_wp2_with fail
      refine (HA.out _ h22).mono ?_; rintro e w23 ⟨A23, n23, c23, rfl, hr23, hc23, hb23⟩
      have h23 := h22.trans hb23
      replace d0 := hb23.cell d0; replace d2 := hb23.cell d2; replace dq := hb23.cell dq; clear hb23
      have hl23 := hr23.lenS
      have hm23 : n23 ≤ 1073741824 := by have := Hl2.out; omega
      clear hr23
      rcases Nat.eq_zero_or_pos n23 with hp23 | hp23
      rotate_left
      · skip
        obtain rfl : true = au := by rw [Hh2.out, decide_eq_true (by omega)]
        clear hl23
        have HL := Lib.hid (show (7 : Int) = R by rw [Hr.out]; simp [s0, s1, s2, s3, h0, hq, hd2])
        clear Hr
        go_wp2_with fail
        go_ret
        exact ⟨ret_i HL.out, h23⟩
      obtain rfl : false = au := by rw [Hh2.out, decide_eq_false (by omega)]
      subst hp23
      clear hl23 hm23
      cases hk : (k2 == 5)
      · skip
        have HL := Lib.hid (show (0 : Int) = R by rw [Hr.out]; simp [s0, s1, s2, s3, h0, hq, hd2, hk])
        clear Hr
        go_wp2_with fail
        go_ret
        exact ⟨ret_i HL.out, h23⟩
      have hk5 : k2 = 5 := by simpa using hk
      go_wp2_with fail
      refine (HM.out _ h23).mono ?_; rintro e w30 ⟨rfl, hb30⟩
      have h30 := h23.trans hb30
      replace d0 := hb30.cell d0; replace d2 := hb30.cell d2; replace dq := hb30.cell dq; clear hb30
      cases M
      · skip
        have HL := Lib.hid (show (8 : Int) = R by rw [Hr.out]; simp [s0, s1, s2, s3, h0, hq, hd2, hk])
        clear Hr
        go_wp2_with fail
        go_ret
        exact ⟨ret_i HL.out, h30⟩
      · skip
        have HL := Lib.hid (show (0 : Int) = R by rw [Hr.out]; simp [s0, s1, s2, s3, h0, hq, hd2, hk])
        clear Hr
        go_wp2_with fail
        go_ret
        exact ⟨ret_i HL.out, h30⟩
    go_wp2_with fail
    refine (HX.out _ h5).mono ?_; rintro e w6 ⟨rfl, hb6⟩
    have h6 := h5.trans hb6
    replace d0 := hb6.cell d0; replace d2 := hb6.cell d2; replace dq := hb6.cell dq; clear hb6
    cases X
    · skip
      have HL := Lib.hid (show (2 : Int) = R by rw [Hr.out]; simp [s0, s1, s2, s3])
      clear Hr
      go_wp2_with fail
      go_ret
      exact ⟨ret_i HL.out, h6⟩
    · skip
      cases h0 : D.b0
      rotate_left
      · skip
        rw [h0] at d0
        have HL := Lib.hid (show (3 : Int) = R by rw [Hr.out]; simp [s0, s1, s2, s3, h0])
        clear Hr
        go_wp2_with fail
        go_ret
        exact ⟨ret_i HL.out, h6⟩
      rw [h0] at d0
      cases hq : Q.b0
      rotate_left
      · skip
        rw [hq] at dq
        have HL := Lib.hid (show (3 : Int) = R by rw [Hr.out]; simp [s0, s1, s2, s3, h0, hq])
        clear Hr
        go_wp2_with fail
        go_ret
        exact ⟨ret_i HL.out, h6⟩
      rw [hq] at dq
      cases hd2 : D.b2
      rotate_left
      · skip
        rw [hd2] at d2
        have HL := Lib.hid (show (4 : Int) = R by rw [Hr.out]; simp [s0, s1, s2, s3, h0, hq, hd2])
        clear Hr
        go_wp2_with fail
        go_ret
        exact ⟨ret_i HL.out, h6⟩
      rw [hd2] at d2
      go_wp2_with fail
      refine (HS.out _ h6).mono ?_; rintro e w21 ⟨A21, n21, c21, rfl, hr21, hc21, hb21⟩
      have h21 := h6.trans hb21
      replace d0 := hb21.cell d0; replace d2 := hb21.cell d2; replace dq := hb21.cell dq; clear hb21
      have hl21 := hr21.lenS
      have hm21 : n21 ≤ 1073741824 := by have := Hl1.out; omega
      clear hr21
      rcases Nat.eq_zero_or_pos n21 with hp21 | hp21
      rotate_left
      · skip
        obtain rfl : true = sc := by rw [Hh1.out, decide_eq_true (by omega)]
        clear hl21
        have HL := Lib.hid (show (5 : Int) = R by rw [Hr.out]; simp [s0, s1, s2, s3, h0, hq, hd2])
        clear Hr
        go_wp2_with fail
        go_ret
        exact ⟨ret_i HL.out, h21⟩
      obtain rfl : false = sc := by rw [Hh1.out, decide_eq_false (by omega)]
      subst hp21
      clear hl21 hm21
      go_wp2_with fail
      refine (HV.out _ h21).mono ?_; rintro e w22 ⟨rfl, hb22⟩
      have h22 := h21.trans hb22
      replace d0 := hb22.cell d0; replace d2 := hb22.cell d2; replace dq := hb22.cell dq; clear hb22
      cases sf
      rotate_left
      · skip
        have HL := Lib.hid (show (6 : Int) = R by rw [Hr.out]; simp [s0, s1, s2, s3, h0, hq, hd2])
        clear Hr
        go_wp2_with fail
        go_ret
        exact ⟨ret_i HL.out, h22⟩
      go_wp2_with fail
      refine (HA.out _ h22).mono ?_; rintro e w23 ⟨A23, n23, c23, rfl, hr23, hc23, hb23⟩
      have h23 := h22.trans hb23
      replace d0 := hb23.cell d0; replace d2 := hb23.cell d2; replace dq := hb23.cell dq; clear hb23
      have hl23 := hr23.lenS
      have hm23 : n23 ≤ 1073741824 := by have := Hl2.out; omega
      clear hr23
      rcases Nat.eq_zero_or_pos n23 with hp23 | hp23
      rotate_left
      · skip
        obtain rfl : true = au := by rw [Hh2.out, decide_eq_true (by omega)]
        clear hl23
        have HL := Lib.hid (show (7 : Int) = R by rw [Hr.out]; simp [s0, s1, s2, s3, h0, hq, hd2])
        clear Hr
        go_wp2_with fail
        go_ret
        exact ⟨ret_i HL.out, h23⟩
      obtain rfl : false = au := by rw [Hh2.out, decide_eq_false (by omega)]
      subst hp23
      clear hl23 hm23
      cases hk : (k2 == 5)
      · skip
        have HL := Lib.hid (show (0 : Int) = R by rw [Hr.out]; simp [s0, s1, s2, s3, h0, hq, hd2, hk])
        clear Hr
        go_wp2_with fail
        go_ret
        exact ⟨ret_i HL.out, h23⟩
      have hk5 : k2 = 5 := by simpa using hk
      go_wp2_with fail
      refine (HM.out _ h23).mono ?_; rintro e w30 ⟨rfl, hb30⟩
      have h30 := h23.trans hb30
      replace d0 := hb30.cell d0; replace d2 := hb30.cell d2; replace dq := hb30.cell dq; clear hb30
      cases M
      · skip
        have HL := Lib.hid (show (8 : Int) = R by rw [Hr.out]; simp [s0, s1, s2, s3, h0, hq, hd2, hk])
        clear Hr
        go_wp2_with fail
        go_ret
        exact ⟨ret_i HL.out, h30⟩
      · skip
        have HL := Lib.hid (show (0 : Int) = R by rw [Hr.out]; simp [s0, s1, s2, s3, h0, hq, hd2, hk])
        clear Hr
        go_wp2_with fail
        go_ret
        exact ⟨ret_i HL.out, h30⟩
end Go.Proofs.YtphgaommokgfcaaGreatDoor

namespace Go.Proofs.YtphgaommokgfcaaGreatDoor
open Go.RowKit
set_option maxHeartbeats 16000000 in
set_option maxRecDepth 100000 in
theorem reasons_walk (me : ByteArray) (Aq : Option Addr) (nq cq : Nat) (rq : List Fd) (Ar : Option Addr) (nr cr : Nat) (rp : List Fd) (st : Int) (w : World) (hfq : RdF w Aq nq rq) (hfr : RdF w Ar nr rp) (hbq : rq.length + sumF rq ≤ 1048576) (hbr : rp.length + sumF rp ≤ 1048576) (hg : GlH w) (hgl : Gl w) :
    Calls Tryz.prog 3 #[.agg #[.string me, .slice Aq nq cq, .slice Ar nr cr, .int .i64 st]] w fun e w' => e = .returned (.bool true) ∧ Ext w w' := by
  have hE0 := (Ext.refl w).alloc (.cells #[.string me, .slice Aq nq cq, .slice Ar nr cr, .int .i64 st] 24)
  have HB := Lib.hid (Blk.new w 24 #[.string me, .slice Aq nq cq, .slice Ar nr cr, .int .i64 st])
  have HLg := Lib.hid (fun w' (h : Ext w w') => large_two Aq nq cq rq Ar nr cr rp w' (hfq.ext h) (hfr.ext h) hbq hbr)
  have Hno := Lib.hid (fun h => @large_no Aq nq cq rq Ar nr cr rp w hfq hfr h)
  have HE0 := Lib.hid hE0
  clear hE0 hbq hbr
  go_enter Tryz.func3, Tryz.ntmps3
  go_wp2_with fail
  refine (HLg.out _ HE0.out (w.heap.size + 1) (by rw [World.size_alloc])).mono ?_; rintro e w1 ⟨rfl, hb1⟩
  generalize decide (4000 < tot15 [((Aq, nq, cq), rq), ((Ar, nr, cr), rp)]) = lg at *
  generalize w.alloc (.cells #[.string me, .slice Aq nq cq, .slice Ar nr cr, .int .i64 st] 24) = W0 at *
  have HB1 := Lib.hid (HB.out.ext hb1)
  have hw1 := HE0.out.trans hb1
  cases lg
  rotate_left
  · generalize w.heap.size = b at *
    have s1 : w1.cell? ⟨b, 1, none⟩ = some (.slice Aq nq cq) := HB1.out.cell 1
    have s2 : w1.cell? ⟨b, 2, none⟩ = some (.slice Ar nr cr) := HB1.out.cell 2
    go_wp2_with fail
    refine (HLg.out _ hw1 _ rfl).mono ?_; rintro e w2 ⟨rfl, hb2⟩
    go_wp2_with fail
    go_ret
    exact ⟨rfl, hw1.trans hb2⟩
  obtain ⟨hnq, hnr, hsq, hsr, hzq, hzr⟩ := Hno.out rfl
  have HZ := Lib.hid (⟨hzq.mono (by decide), hzr.mono (by decide)⟩ : Bsz 1048576 rq ∧ Bsz 1048576 rp)
  clear Hno HLg hzq hzr
  go_wp2_with fail
  refine (law15_awake _ (hg.ext hw1) (hgl.ext hw1)).mono ?_; rintro e w2 ⟨rfl, hb2⟩
  have HB2 := Lib.hid (HB1.out.ext hb2)
  have HE2 := Lib.hid (hw1.trans hb2)
  clear HB HB1 HE0 hb1 hb2 hw1
  have hbw := HB2.out.lt
  generalize hbs : w.heap.size = b at *
  have Hwb := Lib.hid (Nat.le_of_eq hbs)
  clear hbs
  have c0 : w2.cell? ⟨b, 0, none⟩ = some (.string me) := HB2.out.cell 0
  have c1 : w2.cell? ⟨b, 1, none⟩ = some (.slice Aq nq cq) := HB2.out.cell 1
  have c2 : w2.cell? ⟨b, 2, none⟩ = some (.slice Ar nr cr) := HB2.out.cell 2
  have c3 : w2.cell? ⟨b, 3, none⟩ = some (.int .i64 st) := HB2.out.cell 3
  have z0 := HB2.out.frozen
  have HC := Lib.hid (show ∀ w', Ext w2 w' → (w'.cell? ⟨b, 0, none⟩ = some (.string me) ∧ w'.cell? ⟨b, 1, none⟩ = some (.slice Aq nq cq) ∧ w'.cell? ⟨b, 2, none⟩ = some (.slice Ar nr cr) ∧ w'.cell? ⟨b, 3, none⟩ = some (.int .i64 st)) from fun w' h => ⟨(HB2.out.ext h).cell 0, (HB2.out.ext h).cell 1, (HB2.out.ext h).cell 2, (HB2.out.ext h).cell 3⟩)
  have HO1 := Lib.hid (fun w' (h : Ext w2 w') => law15_of me Aq nq cq rq Ar nr cr rp st w' (hfq.ext (HE2.out.trans h)) (hfr.ext (HE2.out.trans h)) (by omega) (by omega) HZ.out.1 HZ.out.2 (hg.ext (HE2.out.trans h)) (by omega) (hgl.ext (HE2.out.trans h)))
  have HO2 := Lib.hid (fun w' (h : Ext w2 w') => ref15_Of me Aq nq cq rq st Ar nr cr rp w' (hfq.ext (HE2.out.trans h)) (hfr.ext (HE2.out.trans h)) (by omega) (by omega) HZ.out.1 HZ.out.2)
  generalize rsS (isG me) rq st rp = N at *
  clear HB2 c0 c1 c2 c3 z0
  go_wp2_with fail
  have hE := (Ext.refl w2).drew
  refine wp_region_held_drew (S := (fun w' => w'.cell? ⟨b, 0, none⟩ = some (.string me) ∧ w'.cell? ⟨b, 1, none⟩ = some (.slice Aq nq cq) ∧ w'.cell? ⟨b, 2, none⟩ = some (.slice Ar nr cr) ∧ w'.cell? ⟨b, 3, none⟩ = some (.int .i64 st))) (by kernel_rfl) ?_ (fun hHeld => ?_)
  · (try dsimp only); exact HC.out _ hE
  refine wpAnyH_take (i := 0) (oi := { dst := some 19, op := _, type := _, pos := _, after := _, guard := _ }) (v := ?_) rfl (by kernel_rfl) (by kernel_rfl) (by kernel_rfl) (fun _ _ _ h => h) (Or.inl ⟨by rfl, ?_⟩) (by assumption) ?_
  rotate_left
  · (intro w hSw; (try dsimp only at hSw); go_simp; (try with_reducible rfl))
  (try simp only [Act.put, List.setIfInBounds_toArray, List.set_cons_zero, List.set_cons_succ])
  refine wpAnyH_take (i := 2) (oi := { dst := some 21, op := _, type := _, pos := _, after := _, guard := _ }) (v := ?_) rfl (by kernel_rfl) (by kernel_rfl) (by kernel_rfl) (fun _ _ _ h => h) (Or.inl ⟨by rfl, ?_⟩) (by assumption) ?_
  rotate_left
  · (intro w hSw; (try dsimp only at hSw); go_simp; (try with_reducible rfl))
  (try simp only [Act.put, List.setIfInBounds_toArray, List.set_cons_zero, List.set_cons_succ])
  refine wpAnyH_take (i := 3) (oi := { dst := some 22, op := _, type := _, pos := _, after := _, guard := _ }) (v := ?_) rfl (by kernel_rfl) (by kernel_rfl) (by kernel_rfl) (fun _ _ _ h => h) (Or.inl ⟨by rfl, ?_⟩) (by assumption) ?_
  rotate_left
  · (intro w hSw; (try dsimp only at hSw); go_simp; (try with_reducible rfl))
  (try simp only [Act.put, List.setIfInBounds_toArray, List.set_cons_zero, List.set_cons_succ])
  refine wpAnyH_take (i := 4) (oi := { dst := some 23, op := _, type := _, pos := _, after := _, guard := _ }) (v := ?_) rfl (by kernel_rfl) (by kernel_rfl) (by kernel_rfl) (fun _ _ _ h => h) (Or.inl ⟨by rfl, ?_⟩) (by assumption) ?_
  rotate_left
  · (intro w hSw; (try dsimp only at hSw); go_simp; (try with_reducible rfl))
  (try simp only [Act.put, List.setIfInBounds_toArray, List.set_cons_zero, List.set_cons_succ])
  refine wpAnyH_take (i := 5) (oi := { dst := some 24, op := _, type := _, pos := _, after := _, guard := _ }) (v := ?_) rfl (by kernel_rfl) (by kernel_rfl) (by kernel_rfl) (fun _ _ _ h => h) (Or.inl ⟨by rfl, ?_⟩) (by assumption) ?_
  rotate_left
  · (intro w hSw; (try dsimp only at hSw); go_simp; (try with_reducible rfl))
  (try simp only [Act.put, List.setIfInBounds_toArray, List.set_cons_zero, List.set_cons_succ])
  refine wpAnyH_take (i := 6) (oi := { dst := some 25, op := _, type := _, pos := _, after := _, guard := _ }) (v := ?_) rfl (by kernel_rfl) (by kernel_rfl) (by kernel_rfl) (fun _ _ _ h => h) (Or.inl ⟨by rfl, ?_⟩) (by assumption) ?_
  rotate_left
  · (intro w hSw; (try dsimp only at hSw); go_simp; (try with_reducible rfl))
  (try simp only [Act.put, List.setIfInBounds_toArray, List.set_cons_zero, List.set_cons_succ])
  refine wpAnyH_take (i := 7) (oi := { dst := some 26, op := _, type := _, pos := _, after := _, guard := _ }) (v := ?_) rfl (by kernel_rfl) (by kernel_rfl) (by kernel_rfl) (fun _ _ _ h => h) (Or.inl ⟨by rfl, ?_⟩) (by assumption) ?_
  rotate_left
  · (intro w hSw; (try dsimp only at hSw); go_simp; (try with_reducible rfl))
  (try simp only [Act.put, List.setIfInBounds_toArray, List.set_cons_zero, List.set_cons_succ])
  refine wpAnyH_take (i := 8) (oi := { dst := some 27, op := _, type := _, pos := _, after := _, guard := _ }) (v := ?_) rfl (by kernel_rfl) (by kernel_rfl) (by kernel_rfl) (fun _ _ _ h => h) (Or.inl ⟨by rfl, ?_⟩) (by assumption) ?_
  rotate_left
  · (intro w hSw; (try dsimp only at hSw); go_simp; (try with_reducible rfl))
  (try simp only [Act.put, List.setIfInBounds_toArray, List.set_cons_zero, List.set_cons_succ])
  refine wpAnyH_take (i := 9) (oi := { dst := some 28, op := _, type := _, pos := _, after := _, guard := _ }) (v := ?_) rfl (by kernel_rfl) (by kernel_rfl) (by kernel_rfl) (fun _ _ _ h => h) (Or.inl ⟨by rfl, ?_⟩) (by assumption) ?_
  rotate_left
  · (intro w hSw; (try dsimp only at hSw); go_simp; (try with_reducible rfl))
  (try simp only [Act.put, List.setIfInBounds_toArray, List.set_cons_zero, List.set_cons_succ])
  refine wpAnyH_ready (rs := [1]) (by kernel_rfl) (by simp) ?_
  refine AllReadyH.cons (o := { dst := some 20, op := _, type := _, pos := _, after := _, guard := _ }) rfl (fun K hK => ?_) AllReadyH.nil
  go_simp
  refine (HO1.out _ hE).mono ?_; rintro e w8 ⟨rfl, hb8⟩; replace hE := hE.trans hb8; clear hb8
  try go_wp2_with fail
  refine hK.out _ _ ?_ (fun hHeld => ?_)
  · (try dsimp only); exact HC.out _ hE
  clear hK K
  (try simp only [Act.put, List.setIfInBounds_toArray, List.set_cons_zero, List.set_cons_succ])
  refine wpAnyH_ready (rs := [10]) (by kernel_rfl) (by simp) ?_
  refine AllReadyH.cons (o := { dst := some 29, op := _, type := _, pos := _, after := _, guard := _ }) rfl (fun K hK => ?_) AllReadyH.nil
  go_simp
  refine (HO2.out _ hE).mono ?_; rintro e w9 ⟨rfl, hb9⟩; replace hE := hE.trans hb9; clear hb9
  try go_wp2_with fail
  refine hK.out _ _ ?_ (fun hHeld => ?_)
  · (try dsimp only); exact HC.out _ hE
  clear hK K
  (try simp only [Act.put, List.setIfInBounds_toArray, List.set_cons_zero, List.set_cons_succ])
  refine wpAnyH_take (i := 11) (oi := { dst := some 30, op := _, type := _, pos := _, after := _, guard := _ }) (v := ?_) rfl (by kernel_rfl) (by kernel_rfl) (by kernel_rfl) (fun _ _ _ h => h) (Or.inl ⟨by rfl, ?_⟩) (by assumption) ?_
  rotate_left
  · (intro w hSw; (try dsimp only at hSw); go_simp; (try with_reducible rfl))
  (try simp only [Act.put, List.setIfInBounds_toArray, List.set_cons_zero, List.set_cons_succ])
  refine wpAnyH_take (i := 12) (oi := { dst := some 2, op := _, type := _, pos := _, after := _, guard := _ }) (v := ?_) rfl (by kernel_rfl) (by kernel_rfl) (by kernel_rfl) (fun _ _ _ h => h) (Or.inl ⟨by rfl, ?_⟩) (by assumption) ?_
  rotate_left
  · (intro w hSw; (try dsimp only at hSw); go_simp; (try with_reducible rfl))
  (try simp only [Act.put, List.setIfInBounds_toArray, List.set_cons_zero, List.set_cons_succ])
  refine wpAnyH_done (by kernel_rfl) ?_ _
  go_wp2_with fail
  go_ret
  exact ⟨ret_b (by simp), HE2.out.trans hE⟩
end Go.Proofs.YtphgaommokgfcaaGreatDoor

namespace Go.Proofs.YtphgaommokgfcaaGreatDoor
open Go.ChangeShapes Go.WideShapes Go.Deep Go.RowKit

/-- Type e is a struct of two strings. -/
def TwoStr (P : Program) (e S : TypeId) : Prop := ∃ f0 f1, P.underlying e = some (.struct #[f0, f1]) ∧ f0.type = S ∧ f1.type = S ∧ f0.offset = 0 ∧ f1.offset = 1 ∧ P.underlying S = some .string ∧ P.cellsOf S = 1 ∧ P.cellsOf e = 2

section
variable {H : Type} {enc : TypeId × Value → H} {P : Program} {w : World} {base : Nat} {spare : Nat → Bool} {held : Bool}

theorem trod_twoStr {e S : TypeId} {fuel : Nat} {cs : List Value} {x : DataW H × List MemPlace} (he : TwoStr P e S) (h : DataW.trod enc P w base spare held fuel e cs = some x) :
    ∃ a b : ByteArray, cs = [.string a, .string b] ∧ x.1 = .agg [.lit (.string a.data.toList), .lit (.string b.data.toList)] ∧ a.size ≤ maxLen ∧ b.size ≤ maxLen := by
  obtain ⟨f0, f1, hu, t0, t1, o0, o1, hS, hc, hce⟩ := he
  obtain ⟨y0, y1, n, rfl, hl, h0, h1⟩ := trod_struct2 hu h
  rw [t0, o0, hc] at h0
  rw [t1, o1, hc] at h1
  rw [hce] at hl
  match cs, hl with
  | [c0, c1], _ =>
    simp only [List.drop_zero, List.take_succ_cons, List.take_zero] at h0
    simp only [List.drop_succ_cons, List.drop_zero, List.take_succ_cons, List.take_zero] at h1
    obtain ⟨a, ha, rfl, ha2⟩ := DataW.trod_string hS h0
    obtain ⟨b, hb, rfl, hb2⟩ := DataW.trod_string hS h1
    simp only [List.cons.injEq, and_true] at ha hb
    subst ha; subst hb
    exact ⟨a, b, rfl, rfl, ha2, hb2⟩

theorem sz_data (a : ByteArray) : a.data.toList.length = a.size := by rw [Array.length_toList]; rfl

theorem weightsAll_mem {e : TypeId} {n : Nat} : ∀ {l : List (DataW H)} {i : Nat} {d : DataW H}, l[i]? = some d → n ∈ d.weights P e → n ∈ DataW.weightsAll P e l
  | d0 :: l, 0, d, hd, hn => by
    simp only [List.getElem?_cons_zero, Option.some.injEq] at hd
    subst hd
    simp only [DataW.weightsAll, List.mem_append]
    exact Or.inl hn
  | d0 :: l, i + 1, d, hd, hn => by
    simp only [List.getElem?_cons_succ] at hd
    simp only [DataW.weightsAll, List.mem_append]
    exact Or.inr (weightsAll_mem hd hn)
  | [], _, _, hd, _ => by simp at hd

/-- A slice of pairs of strings, opened. -/
theorem open_flds {t e S : TypeId} {A : Option Addr} {n c : Nat} {d : DataW H} {p : List MemPlace} (ht : P.underlying t = some (.slice e)) (he : TwoStr P e S)
    (h : DataW.Trod enc P w base spare held t (.slice A n c) d p) :
    ∃ L : List Fd, RdF w A n L ∧ n ≤ maxLen ∧ n ≤ c ∧ (∀ B, (∀ x ∈ d.weights P t, x ≤ B) → Bsz B L ∧ n * P.bytesOf e ≤ B) := by
  obtain ⟨fuel, hf⟩ := h
  have hf' : DataW.trod enc P w base spare held fuel t [.slice A n c] = some (d, p) := by simpa [Value.cells] using hf
  rcases open_slice ht hf' with ⟨hcs, hx⟩ | ⟨a, len, cap, m, k, D, Pl, hcs, hb, hl, hm, hmm, hx, hi⟩
  · simp only [List.cons.injEq, Value.slice.injEq, and_true] at hcs
    obtain ⟨rfl, rfl, rfl⟩ := hcs
    exact ⟨[], Rd.none_ _ _ _, by simp [maxLen], Nat.le_refl _, fun B _ => ⟨by intro f hf; simp at hf, by simp⟩⟩
  · simp only [List.cons.injEq, Value.slice.injEq, and_true] at hcs
    obtain ⟨rfl, rfl, rfl⟩ := hcs
    obtain ⟨f0, f1, hu, t0, t1, o0, o1, hS, hc, hce⟩ := id he
    rw [hce] at hi
    have hnm : n ≤ m := by rw [hmm]; split <;> omega
    obtain ⟨F, hF⟩ := choose_lt (α := Fd) (n := m) (p := fun i f => w.cell? (a.add (i * 2)) = some (.string f.1) ∧ w.cell? (a.add (i * 2 + 1)) = some (.string f.2) ∧ D i = .agg [.lit (.string f.1.data.toList), .lit (.string f.2.data.toList)]) (fun i him => by
      obtain ⟨cs', h1, h2⟩ := hi i him
      obtain ⟨_, _, hat⟩ := World.cells?_some h1
      obtain ⟨u, v, rfl, hd, _, _⟩ := trod_twoStr he h2
      have c0 := hat 0 (by omega)
      have c1 := hat 1 (by omega)
      rw [Go.Deep.add_add] at c0 c1
      exact ⟨(u, v), by simpa using c0, by simpa using c1, hd⟩)
    have hlen : ((List.range n).map F).length = n := by simp
    refine ⟨(List.range n).map F, ⟨by rw [fldCells_len, hlen], fun hpos => ?_⟩, by omega, hl, fun B hB => ⟨fun f hf => ?_, ?_⟩⟩
    · have hn0 : 0 < n := by rw [fldCells_len, hlen] at hpos; omega
      obtain ⟨b, o, sp⟩ := a
      have hsp : sp = none := by simpa [Addr.add] using World.cell?_spot (hF 0 (by omega)).1
      subst hsp
      refine ⟨b, o, rfl, fun j u hj => ?_⟩
      have hjl : j < n * 2 := by
        have := (List.getElem?_eq_some_iff.1 hj).1
        rw [fldCells_len, hlen] at this; exact this
      have hlt : j / 2 < ((List.range n).map F).length := by rw [hlen]; omega
      have hcells := hF (j / 2) (by omega)
      rw [add_plain, add_plain] at hcells
      have hFe : ((List.range n).map F)[j / 2] = F (j / 2) := by simp
      rcases Nat.mod_two_eq_zero_or_one j with h0 | h1
      · have e : j = j / 2 * 2 := by omega
        rw [e, fldCells_at0 _ _ hlt, hFe] at hj
        rw [e, ← hj]
        have e2 : j / 2 * 2 / 2 = j / 2 := by omega
        exact hcells.1
      · have e : j = j / 2 * 2 + 1 := by omega
        rw [e, fldCells_at1 _ _ hlt, hFe] at hj
        rw [e, ← hj]
        exact hcells.2.1
    · simp only [List.mem_map, List.mem_range] at hf
      obtain ⟨i, hin, rfl⟩ := hf
      have hd := (hF i (by omega)).2.2
      have hx1 : d = DataW.slice ((List.range n).map D) ((List.range (m - n)).map fun j => D (n + j)) := congrArg Prod.fst hx
      have hw : ∀ x ∈ (D i).weights P e, x ≤ B := fun x hxm => hB x (by
        rw [hx1]
        simp only [DataW.weights, ht, List.mem_cons, List.mem_append]
        exact Or.inr (Or.inl (weightsAll_mem (i := i) (by simp [hin]) hxm)))
      rw [hd] at hw
      simp only [DataW.weights, hu, DataW.weightsEach, List.map_cons, List.map_nil] at hw
      simp only [List.append_nil, List.mem_append, List.mem_singleton] at hw
      exact ⟨by rw [← sz_data]; exact hw _ (Or.inl rfl), by rw [← sz_data]; exact hw _ (Or.inr rfl)⟩
    · have hx1 : d = DataW.slice ((List.range n).map D) ((List.range (m - n)).map fun j => D (n + j)) := congrArg Prod.fst hx
      have := hB ((((List.range n).map D).length + ((List.range (m - n)).map fun j => D (n + j)).length) * P.bytesOf e) (by
        rw [hx1]
        simp [DataW.weights, ht])
      simp only [List.length_map, List.length_range] at this
      exact Nat.le_trans (Nat.mul_le_mul_right _ (by omega)) this
end

/-- An array of two strings by value, opened. -/
theorem open_arr2 {H : Type} {enc : TypeId × Value → H} {P : Program} {w : World} {base : Nat} {spare : Nat → Bool} {held : Bool} {t S : TypeId} {v : Value} {d : DataW H} {p : List MemPlace} {r : Reach} {b0 : Nat}
    (ht : P.underlying t = some (.array 2 S)) (hS : P.underlying S = some .string) (hc : P.cellsOf S = 1) (hct : P.cellsOf t = 2) (hv : Value.okWide P w r b0 t v) (h : DataW.Trod enc P w base spare held t v d p) :
    ∃ a b : ByteArray, v = .agg #[.string a, .string b] ∧ (∀ B, (∀ x ∈ d.weights P t, x ≤ B) → a.size ≤ B ∧ b.size ≤ B) := by
  simp only [Value.okWide, ht] at hv
  obtain ⟨cs, rfl, hsz, _⟩ := hv
  rw [hct] at hsz
  obtain ⟨fuel, hf⟩ := h
  obtain ⟨xs, m, _, hx, _, hlen, hg⟩ := DataW.trod_array ht hf
  obtain ⟨l⟩ := cs
  match l, hsz with
  | [c0, c1], _ =>
    match xs, hlen with
    | [y0, y1], _ =>
      have g0 := hg 0 (by omega)
      have g1 := hg 1 (by omega)
      simp only [Value.cells, hc, Nat.zero_mul, List.drop_zero, List.take_succ_cons, List.take_zero, List.getElem?_cons_zero] at g0
      simp only [Value.cells, hc, Nat.one_mul, List.drop_succ_cons, List.drop_zero, List.take_succ_cons, List.take_zero, List.getElem?_cons_succ, List.getElem?_cons_zero] at g1
      obtain ⟨a, ha, ha1, _⟩ := DataW.trod_string hS g0
      obtain ⟨b, hb, hb1, _⟩ := DataW.trod_string hS g1
      simp only [List.cons.injEq, and_true] at ha hb
      subst ha; subst hb; subst ha1; subst hb1
      refine ⟨a, b, rfl, fun B hB => ?_⟩
      have hd := congrArg Prod.fst hx
      simp only [List.map_cons, List.map_nil] at hd
      rw [hd] at hB
      simp only [DataW.weights, ht, DataW.weightsAll, List.append_nil, List.mem_append, List.mem_singleton] at hB
      exact ⟨by rw [← sz_data]; exact hB _ (Or.inl rfl), by rw [← sz_data]; exact hB _ (Or.inr rfl)⟩

/-- What one argument weighs, out of what all do. -/
theorem weights_one {H : Type} {P : Program} {ts : List TypeId} {ds : List (DataW H)} (h : (DataW.weightsEach P ts ds).all (· ≤ reachBytes) = true) {j : Nat} {t : TypeId} {d : DataW H}
    (ht : ts[j]? = some t) (hd : ds[j]? = some d) : ∀ x ∈ d.weights P t, x ≤ 140737488351232 := fun x hx => by
  have := List.all_eq_true.1 h _ (DataW.weights_mem_each ht hd x hx)
  exact of_decide_eq_true this
end Go.Proofs.YtphgaommokgfcaaGreatDoor

namespace Go.Proofs.YtphgaommokgfcaaGreatDoor
open Go.ChangeShapes Go.WideShapes Go.Deep Go.RowKit

theorem bulk_app {H : Type} (l r : List (DataW H)) : Rows.uptoBulkAll (l ++ r) = Rows.uptoBulkAll l + Rows.uptoBulkAll r := by
  induction l with
  | nil => simp [Rows.uptoBulkAll]
  | cons x l ih => simp only [List.cons_append, Rows.uptoBulkAll, ih]; omega
theorem bulk_strs {H : Type} (l : List ByteArray) : Rows.uptoBulkAll (H := H) (l.map fun s => DataW.lit (.string s.data.toList)) = l.length + totS l := by
  induction l with
  | nil => rfl
  | cons x l ih =>
    simp only [List.map_cons, Rows.uptoBulkAll, ih, Rows.uptoBulk, List.length_cons, totS, List.sum_cons, Array.length_toList]
    show x.size + 1 + _ = _
    omega
theorem bulk_flds {H : Type} (l : List Fd) : Rows.uptoBulkAll (H := H) (l.map fun f => DataW.agg [.lit (.string f.1.data.toList), .lit (.string f.2.data.toList)]) = 3 * l.length + sumF l := by
  induction l with
  | nil => rfl
  | cons x l ih =>
    simp only [List.map_cons, Rows.uptoBulkAll, ih, Rows.uptoBulk, List.length_cons, sumF, List.sum_cons, Array.length_toList]
    show (x.1.size + 1) + ((x.2.size + 1) + 0) + 1 + _ = _
    omega
/-- The bound of an Upto statement. -/
theorem bulk_of {H : Type} {l : List (DataW H)} (hk : Rows.uptoSmall H l = true) : Rows.uptoBulkAll l ≤ 1048576 := of_decide_eq_true hk

section
variable {H : Type} {enc : TypeId × Value → H} {P : Program} {w : World} {base : Nat} {spare : Nat → Bool} {held : Bool}
/-- A slice of strings, opened. -/
theorem open_strsL {t e : TypeId} {A : Option Addr} {n c : Nat} {d : DataW H} {p : List MemPlace} (ht : P.underlying t = some (.slice e)) (he : P.underlying e = some .string) (hce : P.cellsOf e = 1)
    (h : DataW.Trod enc P w base spare held t (.slice A n c) d p) :
    ∃ L : List ByteArray, RdS w A n L ∧ n ≤ maxLen ∧ n ≤ c ∧ L.length + totS L + 1 ≤ Rows.uptoBulk d := by
  obtain ⟨fuel, hf⟩ := h
  have hf' : DataW.trod enc P w base spare held fuel t [.slice A n c] = some (d, p) := by simpa [Value.cells] using hf
  rcases open_strings ht he hce hf' with ⟨hcs, hx⟩ | ⟨a, len, cap, ss, hcs, hb, hl, hm, hlen, hx, hi⟩
  · simp only [List.cons.injEq, Value.slice.injEq, and_true] at hcs
    obtain ⟨rfl, rfl, rfl⟩ := hcs
    obtain rfl : d = .nil := congrArg Prod.fst hx
    exact ⟨[], Rd.none_ _ _ _, by simp [maxLen], Nat.le_refl _, by simp [totS, Rows.uptoBulk]⟩
  · simp only [List.cons.injEq, Value.slice.injEq, and_true] at hcs
    obtain ⟨rfl, rfl, rfl⟩ := hcs
    have hnl : n ≤ ss.length := by rw [hlen]; split <;> omega
    have htl : (ss.take n).length = n := by rw [List.length_take]; omega
    refine ⟨ss.take n, ⟨by simp; omega, fun hpos => ?_⟩, by omega, hl, ?_⟩
    · obtain ⟨b, o, sp⟩ := a
      have h0 : 0 < ss.length := by
        rw [List.length_map, htl] at hpos; omega
      have hc0 := hi.1 0 h0
      have hsp : sp = none := by simpa [Addr.add] using World.cell?_spot hc0
      subst hsp
      refine ⟨b, o, rfl, fun j u hu => ?_⟩
      rw [List.getElem?_map, List.getElem?_take] at hu
      split at hu
      · rename_i hjn
        obtain ⟨s, hs, rfl⟩ := Option.map_eq_some_iff.1 hu
        obtain ⟨hjl, he⟩ := List.getElem?_eq_some_iff.1 hs
        have := hi.1 j hjl
        rw [add_plain, List.getD_eq_getElem?_getD, hs] at this
        exact this
      · simp at hu
    · obtain rfl : d = _ := congrArg Prod.fst hx
      simp only [Rows.uptoBulk]
      have := bulk_strs (H := H) (ss.take n)
      unfold strs
      omega
end

/-- THERE IS AN INPUT THAT FITS: a row that lists variables. -/
theorem witU {H : Type} {enc : TypeId × Value → H} {C : Checked} {os : Os} {f : FuncId} {fn : Func} {s : OpenSpec} {conds : List PathCond} {apart : Bool} {laid : List (String × DataW Unit)} (args : Array Value)
    (hv : ((World.laidAll C.prog os laid).forCall (fun _ _ => 0) ⟨#[], args, []⟩).variablesZipB C.prog = true)
    (hr : (((World.laidAll C.prog os laid).forCall (fun _ _ => 0) ⟨#[], args, []⟩).heap.toList.drop C.prog.globals.size).take ((begin C.prog (fun _ _ => 0) default).world.heap.size - C.prog.globals.size) =
      (begin C.prog (fun _ _ => 0) default).world.heap.toList.drop C.prog.globals.size)
    (hok : Input.okWideB C.prog ((World.laidAll C.prog os laid).forCall (fun _ _ => 0) ⟨#[], args, []⟩) f ⟨#[], args, []⟩ = true)
    (hrow : s.preRow enc C.prog fn conds apart laid ((World.laidAll C.prog os laid).forCall (fun _ _ => 0) ⟨#[], args, []⟩).memory args) :
    ∃ (w : World) (tape : Tape) (i : Input), w.os = os ∧ (w.forCall tape i).Shaped C.prog ∧ i.vars = [] ∧ Input.okWide C.prog (w.forCall tape i) .any w.heap.size f i ∧
      s.preRow enc C.prog fn conds apart laid (w.forCall tape i).memory i.args ∧ ({} : Assume).holds C.prog (lone (Frame.enter C.prog f i.args .normal) [] (w.forCall tape i)) :=
  ⟨World.laidAll C.prog os laid, fun _ _ => 0, ⟨#[], args, []⟩, World.laidAll_os _ _ _, World.shaped_of_ZipB hv hr, (Input.okWide_of_okWideB (base := 0) hok).1, (Input.okWide_of_okWideB hok).2, hrow, by
    simp only [Assume.holds]
    exact ⟨by simp, by simp, fun _ => Modest.zero, by simp, by simp⟩⟩
end Go.Proofs.YtphgaommokgfcaaGreatDoor

namespace Go.Proofs.YtphgaommokgfcaaGreatDoor
open Go.ChangeShapes Go.WideShapes Go.Deep Go.RowKit

section
variable {H : Type} {enc : TypeId × Value → H} {P : Program} {w : World} {base : Nat} {spare : Nat → Bool} {held : Bool}
/-- A slice of pairs of strings, opened, with its bulk. -/
theorem open_fldsU {t e S : TypeId} {A : Option Addr} {n c : Nat} {d : DataW H} {p : List MemPlace} (ht : P.underlying t = some (.slice e)) (he : TwoStr P e S)
    (h : DataW.Trod enc P w base spare held t (.slice A n c) d p) :
    ∃ L : List Fd, RdF w A n L ∧ n ≤ maxLen ∧ n ≤ c ∧ 3 * L.length + sumF L + 1 ≤ Rows.uptoBulk d := by
  obtain ⟨fuel, hf⟩ := h
  have hf' : DataW.trod enc P w base spare held fuel t [.slice A n c] = some (d, p) := by simpa [Value.cells] using hf
  rcases open_slice ht hf' with ⟨hcs, hx⟩ | ⟨a, len, cap, m, k, D, Pl, hcs, hb, hl, hm, hmm, hx, hi⟩
  · simp only [List.cons.injEq, Value.slice.injEq, and_true] at hcs
    obtain ⟨rfl, rfl, rfl⟩ := hcs
    exact ⟨[], Rd.none_ _ _ _, by simp [maxLen], Nat.le_refl _, by obtain rfl : d = .nil := congrArg Prod.fst hx; simp [sumF, Rows.uptoBulk]⟩
  · simp only [List.cons.injEq, Value.slice.injEq, and_true] at hcs
    obtain ⟨rfl, rfl, rfl⟩ := hcs
    obtain ⟨f0, f1, hu, t0, t1, o0, o1, hS, hc, hce⟩ := id he
    rw [hce] at hi
    have hnm : n ≤ m := by rw [hmm]; split <;> omega
    obtain ⟨F, hF⟩ := choose_lt (α := Fd) (n := m) (p := fun i f => w.cell? (a.add (i * 2)) = some (.string f.1) ∧ w.cell? (a.add (i * 2 + 1)) = some (.string f.2) ∧ D i = .agg [.lit (.string f.1.data.toList), .lit (.string f.2.data.toList)]) (fun i him => by
      obtain ⟨cs', h1, h2⟩ := hi i him
      obtain ⟨_, _, hat⟩ := World.cells?_some h1
      obtain ⟨u, v, rfl, hd, _, _⟩ := trod_twoStr he h2
      have c0 := hat 0 (by omega)
      have c1 := hat 1 (by omega)
      rw [Go.Deep.add_add] at c0 c1
      exact ⟨(u, v), by simpa using c0, by simpa using c1, hd⟩)
    have hlen : ((List.range n).map F).length = n := by simp
    refine ⟨(List.range n).map F, ⟨by rw [fldCells_len, hlen], fun hpos => ?_⟩, by omega, hl, ?_⟩
    · have hn0 : 0 < n := by rw [fldCells_len, hlen] at hpos; omega
      obtain ⟨b, o, sp⟩ := a
      have hsp : sp = none := by simpa [Addr.add] using World.cell?_spot (hF 0 (by omega)).1
      subst hsp
      refine ⟨b, o, rfl, fun j u hj => ?_⟩
      have hjl : j < n * 2 := by
        have := (List.getElem?_eq_some_iff.1 hj).1
        rw [fldCells_len, hlen] at this; exact this
      have hlt : j / 2 < ((List.range n).map F).length := by rw [hlen]; omega
      have hcells := hF (j / 2) (by omega)
      rw [add_plain, add_plain] at hcells
      have hFe : ((List.range n).map F)[j / 2] = F (j / 2) := by simp
      rcases Nat.mod_two_eq_zero_or_one j with h0 | h1
      · have e : j = j / 2 * 2 := by omega
        rw [e, fldCells_at0 _ _ hlt, hFe] at hj
        rw [e, ← hj]
        have e2 : j / 2 * 2 / 2 = j / 2 := by omega
        exact hcells.1
      · have e : j = j / 2 * 2 + 1 := by omega
        rw [e, fldCells_at1 _ _ hlt, hFe] at hj
        rw [e, ← hj]
        exact hcells.2.1
    · have hx1 : d = DataW.slice ((List.range n).map D) ((List.range (m - n)).map fun j => D (n + j)) := congrArg Prod.fst hx
      have hm2 : (List.range n).map D = ((List.range n).map F).map fun f => DataW.agg [.lit (.string f.1.data.toList), .lit (.string f.2.data.toList)] := by
        rw [List.map_map]
        exact List.map_congr_left fun i hi => (hF i (by have := List.mem_range.1 hi; omega)).2.2
      rw [hx1, hm2]
      simp only [Rows.uptoBulk]
      have := bulk_flds (H := H) ((List.range n).map F)
      omega
end
end Go.Proofs.YtphgaommokgfcaaGreatDoor

namespace Go.Proofs.YtphgaommokgfcaaGreatDoor
open Go.ChangeShapes Go.WideShapes Go.RowKit Go.Deep Go.Joins
section
variable {H : Type} {enc : TypeId × Value → H} {w : World} {base : Nat} {spare : Nat → Bool} {held : Bool}
theorem c_slice {P : Program} {t e : TypeId} {fuel : Nat} {cs : List Value} {x : DataW H × List MemPlace} (ht : P.underlying t = some (.slice e)) (h : DataW.trod enc P w base spare held fuel t cs = some x) :
    ∃ A n c, cs = [.slice A n c] ∧ DataW.Trod enc P w base spare held t (.slice A n c) x.1 x.2 := by
  rcases open_slice ht h with ⟨rfl, hx⟩ | ⟨a, len, cap, m, k, D, Pl, rfl, hb, hl, hm, hmm, hx, hi⟩
  · exact ⟨_, _, _, rfl, fuel, by simpa [Value.cells] using h⟩
  · exact ⟨_, _, _, rfl, fuel, by simpa [Value.cells] using h⟩
theorem open_agg {P : Program} {r : Reach} {b0 : Nat} {t : TypeId} {fs : Array Field} {v : Value} {d : DataW H} {p : List MemPlace} (hs : P.underlying t = some (.struct fs)) (hv : Value.okWide P w r b0 t v) (h : DataW.Trod enc P w base spare held t v d p) :
    ∃ (cs : Array Value) (fuel : Nat), v = .agg cs ∧ DataW.trod enc P w base spare held fuel t cs.toList = some (d, p) := by
  obtain ⟨cs, rfl, hsz⟩ := okWide_struct hs hv
  obtain ⟨fuel, hf⟩ := h
  exact ⟨cs, fuel, rfl, by simpa [Value.cells] using hf⟩
set_option maxRecDepth 100000 in
theorem c_Case {fuel : Nat} {cs : List Value} {x : DataW H × List MemPlace} (h : DataW.trod enc Tryz.prog w base spare held fuel 24 cs = some x) :
    ∃ (x_0 : ByteArray) (x_1A : Option Addr) (x_1n : Nat) (x_1c : Nat) (x_1d : DataW H) (x_1p : List MemPlace) (x_2A : Option Addr) (x_2n : Nat) (x_2c : Nat) (x_2d : DataW H) (x_2p : List MemPlace) (x_3 : Int), cs = [.string x_0, .slice x_1A x_1n x_1c, .slice x_2A x_2n x_2c, .int .i64 x_3] ∧ x.1 = .agg [.lit (.string x_0.data.toList), x_1d, x_2d, .lit (.int .i64 x_3)] ∧ (x_0.size ≤ maxLen ∧ DataW.Trod enc Tryz.prog w base spare held 22 (.slice x_1A x_1n x_1c) x_1d x_1p ∧ DataW.Trod enc Tryz.prog w base spare held 22 (.slice x_2A x_2n x_2c) x_2d x_2p ∧ (Lit.int .i64 x_3).wf = true) := by
  obtain ⟨xs, n, _, rfl, hl, hlen, hf⟩ := DataW.trod_struct Tryz.underlying24 h
  rw [show Tryz.prog.cellsOf 24 = 4 from by kernel_rfl] at hl
  match cs, hl with
  | [c0, c1, c2, c3], _ =>
  have hlen : xs.length = 4 := hlen
  match xs, hlen with
  | [y0, y1, y2, y3], _ =>
    have g0 : DataW.trod enc Tryz.prog w base spare held n 9 (([c0, c1, c2, c3].drop 0).take (Tryz.prog.cellsOf 9)) = [y0, y1, y2, y3][0]? := hf 0 _ rfl
    have g1 : DataW.trod enc Tryz.prog w base spare held n 22 (([c0, c1, c2, c3].drop 1).take (Tryz.prog.cellsOf 22)) = [y0, y1, y2, y3][1]? := hf 1 _ rfl
    have g2 : DataW.trod enc Tryz.prog w base spare held n 22 (([c0, c1, c2, c3].drop 2).take (Tryz.prog.cellsOf 22)) = [y0, y1, y2, y3][2]? := hf 2 _ rfl
    have g3 : DataW.trod enc Tryz.prog w base spare held n 3 (([c0, c1, c2, c3].drop 3).take (Tryz.prog.cellsOf 3)) = [y0, y1, y2, y3][3]? := hf 3 _ rfl
    rw [show Tryz.prog.cellsOf 9 = 1 from by kernel_rfl] at g0
    simp only [List.drop_succ_cons, List.drop_zero, List.take_succ_cons, List.take_zero, List.getElem?_cons_succ, List.getElem?_cons_zero] at g0
    obtain ⟨x_0, e0, d0, f0_0⟩ := DataW.trod_string Tryz.underlying9 g0
    simp only [List.cons.injEq, and_true] at e0
    subst e0
    rw [show Tryz.prog.cellsOf 22 = 1 from by kernel_rfl] at g1
    simp only [List.drop_succ_cons, List.drop_zero, List.take_succ_cons, List.take_zero, List.getElem?_cons_succ, List.getElem?_cons_zero] at g1
    obtain ⟨x_1A, x_1n, x_1c, e1, f1_0⟩ := c_slice Tryz.underlying22 g1
    simp only [List.cons.injEq, and_true] at e1
    subst e1
    rw [show Tryz.prog.cellsOf 22 = 1 from by kernel_rfl] at g2
    simp only [List.drop_succ_cons, List.drop_zero, List.take_succ_cons, List.take_zero, List.getElem?_cons_succ, List.getElem?_cons_zero] at g2
    obtain ⟨x_2A, x_2n, x_2c, e2, f2_0⟩ := c_slice Tryz.underlying22 g2
    simp only [List.cons.injEq, and_true] at e2
    subst e2
    rw [show Tryz.prog.cellsOf 3 = 1 from by kernel_rfl] at g3
    simp only [List.drop_succ_cons, List.drop_zero, List.take_succ_cons, List.take_zero, List.getElem?_cons_succ, List.getElem?_cons_zero] at g3
    obtain ⟨x_3, e3, d3, f3_0⟩ := DataW.trod_int Tryz.underlying3 g3
    simp only [List.cons.injEq, and_true] at e3
    subst e3
    refine ⟨x_0, x_1A, x_1n, x_1c, _, _, x_2A, x_2n, x_2c, _, _, x_3, rfl, ?_, f0_0, f1_0, f2_0, f3_0⟩
    simp only [List.map_cons, List.map_nil, show y0.1 = _ from congrArg Prod.fst d0, show y3.1 = _ from congrArg Prod.fst d3]
set_option maxRecDepth 100000 in
theorem open_Case {r : Reach} {b0 : Nat} {v : Value} {d : DataW H} {p : List MemPlace} (hv : Value.okWide Tryz.prog w r b0 24 v) (h : DataW.Trod enc Tryz.prog w base spare held 24 v d p) :
    ∃ (x_0 : ByteArray) (x_1A : Option Addr) (x_1n : Nat) (x_1c : Nat) (x_1d : DataW H) (x_1p : List MemPlace) (x_2A : Option Addr) (x_2n : Nat) (x_2c : Nat) (x_2d : DataW H) (x_2p : List MemPlace) (x_3 : Int), v = .agg #[.string x_0, .slice x_1A x_1n x_1c, .slice x_2A x_2n x_2c, .int .i64 x_3] ∧ d = .agg [.lit (.string x_0.data.toList), x_1d, x_2d, .lit (.int .i64 x_3)] ∧ (x_0.size ≤ maxLen ∧ DataW.Trod enc Tryz.prog w base spare held 22 (.slice x_1A x_1n x_1c) x_1d x_1p ∧ DataW.Trod enc Tryz.prog w base spare held 22 (.slice x_2A x_2n x_2c) x_2d x_2p ∧ (Lit.int .i64 x_3).wf = true) := by
  obtain ⟨⟨cs⟩, fuel, rfl, hf⟩ := open_agg Tryz.underlying24 hv h
  obtain ⟨x_0, x_1A, x_1n, x_1c, x_1d, x_1p, x_2A, x_2n, x_2c, x_2d, x_2p, x_3, hcs, hd, hfa⟩ := c_Case hf
  exact ⟨x_0, x_1A, x_1n, x_1c, x_1d, x_1p, x_2A, x_2n, x_2c, x_2d, x_2p, x_3, by rw [show cs = _ from hcs], hd, hfa⟩
end
end Go.Proofs.YtphgaommokgfcaaGreatDoor

namespace Go.Proofs.YtphgaommokgfcaaGreatDoor
open Go.RowKit Go.ChangeShapes

theorem laid_in {P : Program} {W : World} : ∀ {laid : List (String × DataW Unit)} {ps : List MemPlace}, DataW.LaidVars P W laid ps → ∀ x ∈ laid,
    ∃ g t cs fuel p, P.globalNamed x.1 = some g ∧ (P.globals[g]?).map (·.type) = some t ∧ W.var? P x.1 = some cs ∧ DataW.trod (fun _ => ()) P W 0 (fun _ => true) false fuel t cs.toList = some (x.2, p)
  | [], _, _, x, hx => by cases hx
  | (n, d) :: r, ps, h, x, hx => by
    obtain ⟨g, t, cs, fuel, p, q, h1, h2, h3, h4, h5, _⟩ := h
    rcases List.mem_cons.1 hx with rfl | hx
    · exact ⟨g, t, cs, fuel, p, h1, h2, h3, h4⟩
    · exact laid_in h5 x hx
theorem cells_arr {α : Type} {P : Program} {w : World} {base : Nat} {sp : Nat → Bool} {held : Bool} {fuel : Nat} {t e : TypeId} {n : Nat} {cs : List Value} {l : List α} {p : List MemPlace} (lit : α → DataW Unit) (cell : α → Value)
    (ht : P.underlying t = some (.array n e)) (hce : P.cellsOf e = 1) (hct : P.cellsOf t = n)
    (hone : ∀ m c a q, DataW.trod (fun _ => ()) P w base sp held m e [c] = some (lit a, q) → c = cell a)
    (h : DataW.trod (fun _ => ()) P w base sp held fuel t cs = some (.agg (l.map lit), p)) : cs = l.map cell := by
  obtain ⟨xs, m, rfl, hx, hlen, hxl, hg⟩ := DataW.trod_array ht h
  have hm : l.map lit = xs.map (·.1) := by
    have := congrArg Prod.fst hx
    simpa using this
  have hll : l.length = n := by
    have := congrArg List.length hm
    simp at this
    omega
  apply List.ext_getElem (by simp; omega)
  intro i h1 h2
  have hi : i < n := by omega
  have h3 := hg i hi
  rw [hce, Nat.mul_one] at h3
  have h4 : (cs.drop i).take 1 = [cs[i]] := by
    rw [List.drop_eq_getElem_cons h1]; rfl
  have hix : i < xs.length := by omega
  rw [h4, List.getElem?_eq_getElem hix] at h3
  have h5 : lit (l[i]'(by omega)) = (xs[i]).1 := by
    have := congrArg (·[i]?) hm
    simpa [hix, show i < l.length by omega] using this
  rw [List.getElem_map]
  refine hone m _ _ (xs[i]).2 ?_
  rw [h3, h5]
theorem tab_rd {α : Type} {P : Program} {W : World} {laid : List (String × DataW Unit)} {name : String} {g : Nat} {t e : TypeId} {n : Nat} {l : List α} (lit : α → DataW Unit) (cell : α → Value)
    (hp : (laid.all fun x => x.2.handleName?.isNone) = true) (h : laidMetH P laid W) (hin : (name, .agg (l.map lit)) ∈ laid) (hg : P.globalNamed name = some g) (hty : (P.globals[g]?).map (·.type) = some t)
    (ht : P.underlying t = some (.array n e)) (hce : P.cellsOf e = 1) (hct : P.cellsOf t = n)
    (hone : ∀ m c a q, DataW.trod (fun _ => ()) P W 0 (fun _ => true) false m e [c] = some (lit a, q) → c = cell a) (hl : l.length = n) : Rd W 1 (some ⟨g, 0, none⟩) n (l.map cell) := by
  rw [MakeChecks.laidMetH_plain _ _ _ hp] at h
  obtain ⟨ps, hv, _⟩ := h
  obtain ⟨g', t', cs, fuel, p, h1, h2, h3, h4⟩ := laid_in hv _ hin
  obtain rfl := Option.some.inj (hg.symm.trans h1)
  obtain rfl := Option.some.inj (hty.symm.trans h2)
  have hc := cells_arr lit cell ht hce hct hone h4
  refine ⟨by simp [hl], fun _ => ⟨g, 0, rfl, fun j u hu => ?_⟩⟩
  rw [Nat.zero_add, World.var?_cell hg h3 j, ← Array.getElem?_toList, hc]
  exact hu
theorem one_str {P : Program} {w : World} {base : Nat} {sp : Nat → Bool} {held : Bool} {e : TypeId} (he : P.underlying e = some .string) (m : Nat) (c : Value) (a : ByteArray) (q : List MemPlace)
    (h : DataW.trod (fun _ => ()) P w base sp held m e [c] = some (.lit (.string a.data.toList), q)) : c = .string a := by
  obtain ⟨s, h1, h2, _⟩ := DataW.trod_string he h
  simp only [List.cons.injEq, and_true] at h1
  simp only [Prod.mk.injEq, DataW.lit.injEq, Lit.string.injEq] at h2
  rw [h1, bytes_ext h2.1]
theorem one_int {P : Program} {w : World} {base : Nat} {sp : Nat → Bool} {held : Bool} {e : TypeId} {k : IntKind} (he : P.underlying e = some (.int k)) (m : Nat) (c : Value) (a : Int) (q : List MemPlace)
    (h : DataW.trod (fun _ => ()) P w base sp held m e [c] = some (.lit (.int k a), q)) : c = .int k a := by
  obtain ⟨s, h1, h2, _⟩ := DataW.trod_int he h
  simp only [List.cons.injEq, and_true] at h1
  simp only [Prod.mk.injEq, DataW.lit.injEq, Lit.int.injEq, true_and] at h2
  rw [h1, h2.1]
end Go.Proofs.YtphgaommokgfcaaGreatDoor

namespace Go.Proofs.YtphgaommokgfcaaGreatDoor
open Go.RowKit Go.ChangeShapes

set_option maxRecDepth 100000 in
/-- The three tables of httpdate, out of a row's condition. -/
theorem glH_of {W : World} {laid : List (String × DataW Unit)} (hp : (laid.all fun x => x.2.handleName?.isNone) = true) (h : laidMetH Tryz.prog laid W)
    (h1 : ("quayside/httpdate.months", Rows.laid_quayside_httpdate_months) ∈ laid) (h2 : ("quayside/httpdate.weekdays", Rows.laid_quayside_httpdate_weekdays) ∈ laid) (h3 : ("quayside/httpdate.lengths", Rows.laid_quayside_httpdate_lengths) ∈ laid) : GlH W :=
  ⟨tab_rd (l := moL) (fun s => .lit (.string s.data.toList)) Value.string hp h h1 (by kernel_rfl) (by kernel_rfl) Tryz.underlying114 (by kernel_rfl) (by kernel_rfl) (one_str Tryz.underlying9) rfl,
   tab_rd (l := wdL) (fun s => .lit (.string s.data.toList)) Value.string hp h h2 (by kernel_rfl) (by kernel_rfl) Tryz.underlying131 (by kernel_rfl) (by kernel_rfl) (one_str Tryz.underlying9) rfl,
   tab_rd (l := leL) (fun z => .lit (.int .i64 z)) (Value.int .i64) hp h h3 (by kernel_rfl) (by kernel_rfl) Tryz.underlying145 (by kernel_rfl) (by kernel_rfl) (one_int Tryz.underlying3) rfl⟩
end Go.Proofs.YtphgaommokgfcaaGreatDoor

namespace Go.Proofs.YtphgaommokgfcaaGreatDoor
open Go.RowKit

theorem gl_of {w : World} (h : w.ShapedOpen Tryz.prog) : Gl w :=
  Go.Proofs.cell_of_shapedOpen_int (zero := #[.int .i64 0]) (t := 3) h (of_decide_eq_true (by kernel_rfl)) (by kernel_rfl) rfl (by kernel_rfl) (by kernel_rfl) Tryz.underlying3
theorem u8_wf {x : Int} (h : (Lit.int .u8 x).wf = true) : 0 ≤ x ∧ x ≤ 255 := by
  simp [Lit.wf] at h
  have e1 : IntKind.u8.min = 0 := rfl
  have e2 : IntKind.u8.max = 255 := rfl
  omega
end Go.Proofs.YtphgaommokgfcaaGreatDoor

namespace Go.Proofs.YtphgaommokgfcaaGreatDoor
open Go.RowKit

theorem all_n {w : World} {A : Option Addr} {n N : Nat} {fs : List Fd} {name : ByteArray} (h : RdS w A n (allS fs name)) (hN : fs.length ≤ N) : n ≤ N := by
  have h1 := h.lenS
  have h2 := allS_len fs name fs.length
  rw [List.take_of_length_le (Nat.le_refl _)] at h2
  omega

theorem str_Equal (A A2 : Option Addr) (n c n2 c2 : Nat) (xs ys : List ByteArray) (w : World) (hx : RdS w A n xs) (hy : RdS w A2 n2 ys) (hn : n ≤ 9223372036854775807) (hn2 : n2 ≤ 9223372036854775807) :
    Calls Tryz.prog 25 #[.slice A n c, .slice A2 n2 c2] w fun e w' => e = .returned (.bool (decide (xs = ys))) ∧ Ext w w' := by
  have h1 := hx.lenS
  have h2 := hy.lenS
  by_cases hne : n = n2
  · subst hne
    by_cases h0 : 0 < n
    · obtain ⟨b, o, rfl, hc⟩ := hx.2 (by simp; omega)
      obtain ⟨b2, o2, rfl, hc2⟩ := hy.2 (by simp; omega)
      have hget : ∀ (l : List ByteArray) (j : Nat), j < l.length → (strCells l)[j]? = some (.string (l.getD j ByteArray.empty)) := fun l j hj => by
        simp [List.getD_eq_getElem?_getD, List.getElem?_eq_getElem hj]
      refine (Tryz.slices_Equal_string b o n c b2 o2 n c2 xs ys w (by omega) (by omega) hn hn (fun j hj => hc j _ (hget xs j hj)) (fun j hj => hc2 j _ (hget ys j hj))).mono fun e w' hh => ?_
      obtain ⟨he, q, rfl⟩ := hh
      rw [List.take_of_length_le (by omega), List.take_of_length_le (by omega)] at he
      exact ⟨he, (Ext.refl w).drewN q⟩
    · obtain rfl : n = 0 := by omega
      obtain rfl : xs = [] := List.eq_nil_of_length_eq_zero h1
      obtain rfl : ys = [] := List.eq_nil_of_length_eq_zero h2
      refine (Tryz.slices_Equal_string_empty A A2 c 0 c2 w hn2).mono fun e w' hh => ?_
      obtain ⟨he, rfl⟩ := hh
      exact ⟨by rw [he]; rfl, Ext.refl _⟩
  · refine (Tryz.slices_Equal_string_lens A A2 n c n2 c2 w hne).mono fun e w' hh => ?_
    obtain ⟨he, rfl⟩ := hh
    refine ⟨by rw [he, decide_eq_false]; intro h; subst h; omega, Ext.refl _⟩

end Go.Proofs.YtphgaommokgfcaaGreatDoor

namespace Go.Proofs.YtphgaommokgfcaaGreatDoor
open Go.RowKit

/-- What an update returns. -/
def UpV (o : Option (List Fd)) (e : Ending) (w' : World) : Prop := match o with
  | some L => ∃ A' n' c', e = .returned (.tuple #[.slice A' n' c', .nilIface]) ∧ RdF w' A' n' L ∧ n' ≤ c'
  | none => e = .returned (.tuple #[.slice none 0 0, errV 20])
def threeN : List ByteArray := [clN, ceN, crN]
def rem3 (fs : List Fd) (k : Nat) : List Fd := (threeN.take k).foldl remS fs
theorem rem3_step {fs : List Fd} {k : Nat} (h : k < threeN.length) : rem3 fs (k + 1) = remS (rem3 fs k) threeN[k] := by
  unfold rem3; rw [take_step threeN k h, List.foldl_append]; rfl
theorem rem_sub (fs : List Fd) (m : ByteArray) : ∀ f ∈ remS fs m, f ∈ fs := fun f h => by unfold remS at h; exact (List.mem_filter.1 h).1
theorem rem3_sub (fs : List Fd) : ∀ (k : Nat), ∀ f ∈ rem3 fs k, f ∈ fs := by
  intro k
  unfold rem3
  generalize threeN.take k = l
  induction l generalizing fs with
  | nil => exact fun f h => h
  | cons x l ih => exact fun f h => rem_sub fs x f (ih (remS fs x) f h)
theorem rem3_len (fs : List Fd) (k : Nat) : (rem3 fs k).length ≤ fs.length := by
  unfold rem3
  generalize threeN.take k = l
  induction l generalizing fs with
  | nil => exact Nat.le_refl _
  | cons x l ih => exact Nat.le_trans (ih (remS fs x)) (List.length_filter_le _ _)
theorem three_sz : ∀ (k : Nat) (h : k < threeN.length), (threeN[k]).size ≤ 16 := by decide +kernel
theorem strip_sub (fs : List Fd) : ∀ f ∈ stripS fs, f ∈ fs := fun f h => by unfold stripS at h; exact (List.mem_filter.1 h).1
theorem keep_step {st nw : List Fd} {k : Nat} (h : k < st.length) (hx : hasF nw st[k].1 = false) : (st.take (k + 1)).filter (fun x => !hasF nw x.1) = (st.take k).filter (fun x => !hasF nw x.1) ++ [st[k]] := by
  rw [take_step st k h, List.filter_append]; simp [hx]
theorem drop_step {st nw : List Fd} {k : Nat} (h : k < st.length) (hx : hasF nw st[k].1 = true) : (st.take (k + 1)).filter (fun x => !hasF nw x.1) = (st.take k).filter (fun x => !hasF nw x.1) := by
  rw [take_step st k h, List.filter_append]; simp [hx]
set_option maxHeartbeats 16000000 in
set_option maxRecDepth 100000 in
theorem sto_Update (As : Option Addr) (ns cs : Nat) (st : List Fd) (Af : Option Addr) (nf cf : Nat) (fr : List Fd) (w : World) (hfs : RdF w As ns st) (hff : RdF w Af nf fr)
    (hns : ns ≤ 1073741824) (hnf : nf ≤ 2000) (hszs : Bsz 1048576 st) (hszf : Bsz 6000 fr) :
    Calls Tryz.prog 9 #[.slice As ns cs, .slice Af nf cf] w fun e w' => UpV (updS st fr) e w' ∧ Ext w w' := by
  have hszf1 : Bsz 1048576 fr := hszf.mono (by decide)
  have HS := Lib.hid (fun w' (h : Ext w w') => field_Strip Af nf cf fr w' (hff.ext h) hnf hszf)
  have HH1 := Lib.hid (fun w' (h : Ext w w') => sto_has As ns cs st etN w' (hfs.ext h) hns (by decide) hszs)
  have HH2 := Lib.hid (fun w' (h : Ext w w') => sto_has Af nf cf fr etN w' (hff.ext h) (by omega) (by decide) hszf1)
  have HA1 := Lib.hid (fun w' (h : Ext w w') => field_All As ns cs st etN w' (hfs.ext h) hns (by decide) (fun f hf => Nat.le_trans (hszs f hf).1 (by decide)))
  have HA2 := Lib.hid (fun w' (h : Ext w w') => field_All Af nf cf fr etN w' (hff.ext h) (by omega) (by decide) (fun f hf => Nat.le_trans (hszf1 f hf).1 (by decide)))
  have HT1 := Lib.hid (fun w' (h : Ext w w') => sto_tag As ns cs st w' (hfs.ext h) hns hszs)
  have HT2 := Lib.hid (fun w' (h : Ext w w') => sto_tag Af nf cf fr w' (hff.ext h) (by omega) hszf1)
  have Hl1 := Lib.hid (len_all hfs etN)
  have Hl2 := Lib.hid (len_all hff etN)
  have Hls := Lib.hid hfs.lenF
  have Hnf := Lib.hid hnf
  have Hu := Lib.hid (show updS st fr = if hasF st etN && hasF fr etN && !decide (allS st etN = allS fr etN) && !tgEq (tgF st) (tgF fr) then none else some ((st.filter fun x => !hasF (rem3 (stripS fr) 3) x.1) ++ rem3 (stripS fr) 3) from rfl)
  have HFs := Lib.hid hfs
  have HSz := Lib.hid hszs
  have HBz := Lib.hid (show ∀ k, Bsz 1048576 (rem3 (stripS fr) k) from fun k f hf => hszf1 f (strip_sub fr f (rem3_sub _ k f hf)))
  have HNz := Lib.hid (show ∀ k, (rem3 (stripS fr) k).length ≤ 2000 from fun k => by
    have h1 := rem3_len (stripS fr) k
    have h2 : (stripS fr).length ≤ fr.length := List.length_filter_le _ _
    have h3 := hff.lenF
    omega)
  clear hszf1 hfs hff hszs hszf hnf
  have Hr0 := Lib.hid (show rem3 (stripS fr) 0 = stripS fr from rfl)
  have Hr1 := Lib.hid (fun k (h : k < threeN.length) => rem3_step (fs := stripS fr) h)
  generalize hRR : rem3 (stripS fr) = RR at *
  clear hRR
  generalize stripS fr = SF at *
  generalize updS st fr = U at *
  generalize hasF st etN = H1 at *
  generalize hasF fr etN = H2 at *
  generalize allS st etN = L1 at *
  generalize allS fr etN = L2 at *
  generalize tgF st = T1 at *
  generalize tgF fr = T2 at *
  go_enter Tryz.func9, Tryz.ntmps9
  go_wp2_with fail
  refine (HS.out _ (Ext.refl _)).mono ?_; rintro e w1 ⟨A1, n1, c1, rfl, hr1, hc1, hb1⟩
  have hl3 : RdS (w1.alloc (.cells #[.string ⟨#[99, 111, 110, 116, 101, 110, 116, 45, 108, 101, 110, 103, 116, 104]⟩, .string ⟨#[99, 111, 110, 116, 101, 110, 116, 45, 101, 110, 99, 111, 100, 105, 110, 103]⟩, .string ⟨#[99, 111, 110, 116, 101, 110, 116, 45, 114, 97, 110, 103, 101]⟩] 9)) (some ⟨w1.heap.size, 0, none⟩) 3 threeN := Rd.lit w1 #[.string ⟨#[99, 111, 110, 116, 101, 110, 116, 45, 108, 101, 110, 103, 116, 104]⟩, .string ⟨#[99, 111, 110, 116, 101, 110, 116, 45, 101, 110, 99, 111, 100, 105, 110, 103]⟩, .string ⟨#[99, 111, 110, 116, 101, 110, 116, 45, 114, 97, 110, 103, 101]⟩] 9 rfl 1 3 rfl
  have HL3 := Lib.hid hl3; clear hl3
  have HE1 := Lib.hid (hb1.alloc (.cells #[.string ⟨#[99, 111, 110, 116, 101, 110, 116, 45, 108, 101, 110, 103, 116, 104]⟩, .string ⟨#[99, 111, 110, 116, 101, 110, 116, 45, 101, 110, 99, 111, 100, 105, 110, 103]⟩, .string ⟨#[99, 111, 110, 116, 101, 110, 116, 45, 114, 97, 110, 103, 101]⟩] 9))
  have HR1 := Lib.hid (hr1.ext ((Ext.refl w1).alloc (.cells #[.string ⟨#[99, 111, 110, 116, 101, 110, 116, 45, 108, 101, 110, 103, 116, 104]⟩, .string ⟨#[99, 111, 110, 116, 101, 110, 116, 45, 101, 110, 99, 111, 100, 105, 110, 103]⟩, .string ⟨#[99, 111, 110, 116, 101, 110, 116, 45, 114, 97, 110, 103, 101]⟩] 9)))
  clear hb1 hr1
  go_wp2_with fail
  generalize w1.alloc (.cells #[.string ⟨#[99, 111, 110, 116, 101, 110, 116, 45, 108, 101, 110, 103, 116, 104]⟩, .string ⟨#[99, 111, 110, 116, 101, 110, 116, 45, 101, 110, 99, 111, 100, 105, 110, 103]⟩, .string ⟨#[99, 111, 110, 116, 101, 110, 116, 45, 114, 97, 110, 103, 101]⟩] 9) = w2 at *
  generalize w1.heap.size = b2 at *
  go_loopw [6, 20] (fun v i wr => ∃ k A' n' c', k ≤ 3 ∧ i = .int .i64 (k : Nat) ∧ v = .slice A' n' c' ∧ RdF wr A' n' (RR k) ∧ n' ≤ c' ∧ Ext w2 wr) (fun _ i _ => 3 - (intOf i).toNat)
  case atStart => exact ⟨0, A1, n1, c1, Nat.zero_le _, rfl, rfl, by rw [Hr0.out]; exact HR1.out, hc1, Ext.refl _⟩
  case round =>
    obtain ⟨k, A', n', c', hk, rfl, rfl, hrk, hck, hbr⟩ := hrel
    have Hnk := Lib.hid (show n' ≤ 2000 by rw [← hrk.lenF]; exact HNz.out k)
    by_cases hlt : k < 3
    · have hlt' : k < threeN.length := hlt
      obtain ⟨b, o, hbo, hc0⟩ := (HL3.out.ext hbr).atS hlt'
      injection hbo with hbo
      injection hbo with e1 e2
      subst e1; subst e2
      rw [Nat.zero_add] at hc0
      have Hst := Lib.hid (Hr1.out k hlt')
      have HRm := Lib.hid (field_Remove A' n' c' (RR k) threeN[k] wr hrk (by have := Hnk.out; omega) (by have := three_sz k hlt'; omega) ((HBz.out k).mono (by decide)))
      generalize threeN[k] = x at *
      go_wp2_with fail
      refine HRm.out.mono ?_; rintro e w3 ⟨A3, n3, c3, rfl, hr3, hc3, hb3, hown3⟩
      clear hown3
      go_wp2_with fail
      go_roundw
      case rel => exact ⟨k + 1, A3, n3, c3, by omega, by go_num, rfl, by rw [Hst.out]; exact hr3, hc3, hbr.trans hb3⟩
      case measure => simp [intOf]; omega
    · obtain rfl : k = 3 := by omega
      clear hlt hk
      have h4 := HE1.out.trans hbr
      have HN := Lib.hid (⟨hrk, hck⟩ : _ ∧ _)
      have Hn3 := Lib.hid (HNz.out 3)
      have HB3 := Lib.hid (HBz.out 3)
      clear hrk hck HE1 HL3 HR1 hbr HBz HNz Hr0 Hr1 HS
      generalize RR 3 = N3 at *
      generalize wr = W4 at *
      have g4 : Ext W4 W4 := Ext.refl _
      go_wp2_with fail
      refine (HH1.out _ h4).mono ?_; rintro e w5 ⟨rfl, hb5⟩
      have h5 := h4.trans hb5
      have g5 := g4.trans hb5; clear hb5
      cases H1
      · skip
        generalize w5 = WB5 at *
        have HU := Lib.hid (show U = some ((st.filter fun x => !hasF N3 x.1) ++ N3) by rw [Hu.out]; rfl)
        clear Hu
        go_wp2_with fail
        go_loopw [13, 67] (fun v i wi => ∃ j m A5 c5, j ≤ ns ∧ i = .int .i64 (j : Nat) ∧ v = .slice A5 m c5 ∧ wi.ownsRow WB5.heap.size 45 2 (.slice A5 m c5) m (fldCells ((st.take j).filter fun x => !hasF N3 x.1)) ∧ m ≤ c5 ∧ m ≤ j ∧ Ext WB5 wi) (fun _ i _ => ns - (intOf i).toNat)
        case atStart => exact ⟨0, 0, none, 0, Nat.zero_le _, rfl, rfl, World.ownsRow_nil _ _ _ _, Nat.le_refl _, Nat.le_refl _, Ext.refl _⟩
        case round =>
          obtain ⟨j, m, A5, c5, hj, rfl, rfl, hown, hmc, hmj, hbi⟩ := hrel
          by_cases hjt : j < ns
          · have hjt' : j < st.length := by have := Hls.out; omega
            obtain ⟨b, o, rfl, hc0, hc1⟩ := (HFs.out.ext (h5.trans hbi)).atF hjt'
            have hbd := (HSz.out.at_ hjt').1
            have Hk := Lib.hid (keep_step (nw := N3) hjt')
            have Hd := Lib.hid (drop_step (nw := N3) hjt')
            have HHas := Lib.hid (fun w5 (h5 : Ext W4 w5) => sto_has A' n' c' N3 st[j].1 w5 (HN.out.1.ext h5) (by have := Hnk.out; omega) (by omega) HB3.out)
            generalize hx : st[j] = x at *
            obtain ⟨nm, vl⟩ := x
            clear hx
            simp only at hbd hc0 hc1 Hk Hd HHas
            generalize hasF N3 nm = q at *
            go_wp2_with fail
            refine (HHas.out _ ((g5.trans hbi).alloc _)).mono ?_; rintro e w6 ⟨rfl, hb6⟩
            have hbi6 := (hbi.alloc (.cells #[.string nm, .string vl] 45)).trans hb6
            have hown6 := own_ext (hown.alloc (.cells #[.string nm, .string vl] 45)) hb6
            have x0 := hb6.cell (show (wr.alloc (.cells #[.string nm, .string vl] 45)).cell? ⟨wr.heap.size, 0, none⟩ = some (.string nm) from (Blk.new wr 45 #[.string nm, .string vl]).cell 0)
            have x1 := hb6.cell (show (wr.alloc (.cells #[.string nm, .string vl] 45)).cell? ⟨wr.heap.size, 1, none⟩ = some (.string vl) from (Blk.new wr 45 #[.string nm, .string vl]).cell 1)
            clear hb6 hown hbi
            cases q
            · have Hk2 := Lib.hid (Hk.out rfl)
              clear Hk Hd
              go_wp2_with (first
                | (at_builtin; refine wpList_app _ rfl (.tmp 76) (.tmp 78) 31 rfl WB5 45 _ 2 32 Tryz.underlying31 infoFld rfl (by decide) _ _ _ rfl (hown6.alloc _) _ 1 1 (fldCells [(nm, vl)]) rfl (Rd.two _ _ _ _ (by simp)) (fldCells_one _) (hbi6.alloc _) (by omega) (by decide) ?_; intro A7 c7 w7 hown7 hb7 hle7))
              go_roundw
              case rel => exact ⟨j + 1, m + 1, A7, c7, by omega, by go_num, rfl, by rw [Hk2.out, fldCells_app]; exact hown7, hle7, by omega, hb7⟩
              case measure => simp [intOf]; omega
            · have Hd2 := Lib.hid (Hd.out rfl)
              clear Hk Hd
              go_wp2_with fail
              go_roundw
              case rel => exact ⟨j + 1, m, A5, c5, by omega, by go_num, rfl, by rw [Hd2.out]; exact hown6, hmc, by omega, hbi6⟩
              case measure => simp [intOf]; omega
          · obtain rfl : j = ns := by omega
            have he : st.take j = st := List.take_of_length_le (by have := Hls.out; omega)
            rw [he] at hown
            clear he hjt
            have HN5 := Lib.hid (HN.out.1.ext (g5.trans hbi))
            have hnk := Hnk.out
            go_wp2_with (first
              | (at_builtin; refine wpList_app _ rfl (.tmp 81) (.tmp 82) 31 rfl WB5 45 _ 2 32 Tryz.underlying31 infoFld rfl (by decide) _ _ _ rfl hown _ n' c' (fldCells N3) rfl HN5.out (fldCells_one _) hbi (by omega) (by decide) ?_; intro A7 c7 w7 hown7 hb7 hle7))
            go_ret2
            exact ⟨by rw [HU.out]; exact ⟨A7, m + n', c7, rfl, by rw [← fldCells_app] at hown7; exact Rd.of_own hown7, hle7⟩, h5.trans hb7⟩
      go_wp2_with fail
      refine (HH2.out _ h5).mono ?_; rintro e w6 ⟨rfl, hb6⟩
      have h6 := h5.trans hb6
      have g6 := g5.trans hb6; clear hb6
      cases H2
      · skip
        generalize w6 = WB6 at *
        have HU := Lib.hid (show U = some ((st.filter fun x => !hasF N3 x.1) ++ N3) by rw [Hu.out]; rfl)
        clear Hu
        go_wp2_with fail
        go_loopw [13, 67] (fun v i wi => ∃ j m A5 c5, j ≤ ns ∧ i = .int .i64 (j : Nat) ∧ v = .slice A5 m c5 ∧ wi.ownsRow WB6.heap.size 45 2 (.slice A5 m c5) m (fldCells ((st.take j).filter fun x => !hasF N3 x.1)) ∧ m ≤ c5 ∧ m ≤ j ∧ Ext WB6 wi) (fun _ i _ => ns - (intOf i).toNat)
        case atStart => exact ⟨0, 0, none, 0, Nat.zero_le _, rfl, rfl, World.ownsRow_nil _ _ _ _, Nat.le_refl _, Nat.le_refl _, Ext.refl _⟩
        case round =>
          obtain ⟨j, m, A5, c5, hj, rfl, rfl, hown, hmc, hmj, hbi⟩ := hrel
          by_cases hjt : j < ns
          · have hjt' : j < st.length := by have := Hls.out; omega
            obtain ⟨b, o, rfl, hc0, hc1⟩ := (HFs.out.ext (h6.trans hbi)).atF hjt'
            have hbd := (HSz.out.at_ hjt').1
            have Hk := Lib.hid (keep_step (nw := N3) hjt')
            have Hd := Lib.hid (drop_step (nw := N3) hjt')
            have HHas := Lib.hid (fun w5 (h5 : Ext W4 w5) => sto_has A' n' c' N3 st[j].1 w5 (HN.out.1.ext h5) (by have := Hnk.out; omega) (by omega) HB3.out)
            generalize hx : st[j] = x at *
            obtain ⟨nm, vl⟩ := x
            clear hx
            simp only at hbd hc0 hc1 Hk Hd HHas
            generalize hasF N3 nm = q at *
            go_wp2_with fail
            refine (HHas.out _ ((g6.trans hbi).alloc _)).mono ?_; rintro e w6 ⟨rfl, hb6⟩
            have hbi6 := (hbi.alloc (.cells #[.string nm, .string vl] 45)).trans hb6
            have hown6 := own_ext (hown.alloc (.cells #[.string nm, .string vl] 45)) hb6
            have x0 := hb6.cell (show (wr.alloc (.cells #[.string nm, .string vl] 45)).cell? ⟨wr.heap.size, 0, none⟩ = some (.string nm) from (Blk.new wr 45 #[.string nm, .string vl]).cell 0)
            have x1 := hb6.cell (show (wr.alloc (.cells #[.string nm, .string vl] 45)).cell? ⟨wr.heap.size, 1, none⟩ = some (.string vl) from (Blk.new wr 45 #[.string nm, .string vl]).cell 1)
            clear hb6 hown hbi
            cases q
            · have Hk2 := Lib.hid (Hk.out rfl)
              clear Hk Hd
              go_wp2_with (first
                | (at_builtin; refine wpList_app _ rfl (.tmp 76) (.tmp 78) 31 rfl WB6 45 _ 2 32 Tryz.underlying31 infoFld rfl (by decide) _ _ _ rfl (hown6.alloc _) _ 1 1 (fldCells [(nm, vl)]) rfl (Rd.two _ _ _ _ (by simp)) (fldCells_one _) (hbi6.alloc _) (by omega) (by decide) ?_; intro A7 c7 w7 hown7 hb7 hle7))
              go_roundw
              case rel => exact ⟨j + 1, m + 1, A7, c7, by omega, by go_num, rfl, by rw [Hk2.out, fldCells_app]; exact hown7, hle7, by omega, hb7⟩
              case measure => simp [intOf]; omega
            · have Hd2 := Lib.hid (Hd.out rfl)
              clear Hk Hd
              go_wp2_with fail
              go_roundw
              case rel => exact ⟨j + 1, m, A5, c5, by omega, by go_num, rfl, by rw [Hd2.out]; exact hown6, hmc, by omega, hbi6⟩
              case measure => simp [intOf]; omega
          · obtain rfl : j = ns := by omega
            have he : st.take j = st := List.take_of_length_le (by have := Hls.out; omega)
            rw [he] at hown
            clear he hjt
            have HN5 := Lib.hid (HN.out.1.ext (g6.trans hbi))
            have hnk := Hnk.out
            go_wp2_with (first
              | (at_builtin; refine wpList_app _ rfl (.tmp 81) (.tmp 82) 31 rfl WB6 45 _ 2 32 Tryz.underlying31 infoFld rfl (by decide) _ _ _ rfl hown _ n' c' (fldCells N3) rfl HN5.out (fldCells_one _) hbi (by omega) (by decide) ?_; intro A7 c7 w7 hown7 hb7 hle7))
            go_ret2
            exact ⟨by rw [HU.out]; exact ⟨A7, m + n', c7, rfl, by rw [← fldCells_app] at hown7; exact Rd.of_own hown7, hle7⟩, h6.trans hb7⟩
      go_wp2_with fail
      refine (HA1.out _ h6).mono ?_; rintro e w7 ⟨A7, n7, c7, rfl, hr7, hc7, hb7⟩
      have h7 := h6.trans hb7
      have g7 := g6.trans hb7; clear hb7
      have hn7 : n7 ≤ 9223372036854775807 := by have := hr7.lenS; have := Hl1.out; omega
      go_wp2_with fail
      refine (HA2.out _ h7).mono ?_; rintro e w8 ⟨A8, n8, c8, rfl, hr8, hc8, hb8⟩
      have h8 := h7.trans hb8
      have hn8 : n8 ≤ 9223372036854775807 := by have := hr8.lenS; have := Hl2.out; have := Hnf.out; omega
      have HEq := Lib.hid (str_Equal A7 A8 n7 c7 n8 c8 L1 L2 w8 (hr7.ext hb8) hr8 hn7 hn8)
      have g8 := g7.trans hb8
      clear hr7 hr8 hb8 hn7 hn8 hc7 hc8
      generalize decide (L1 = L2) = q at *
      go_wp2_with fail
      refine HEq.out.mono ?_; rintro e w9 ⟨rfl, hb9⟩
      have h9 := h8.trans hb9
      have g9 := g8.trans hb9; clear hb9
      clear HEq
      cases q
      rotate_left
      · skip
        generalize w9 = WB9 at *
        have HU := Lib.hid (show U = some ((st.filter fun x => !hasF N3 x.1) ++ N3) by rw [Hu.out]; rfl)
        clear Hu
        go_wp2_with fail
        go_loopw [13, 67] (fun v i wi => ∃ j m A5 c5, j ≤ ns ∧ i = .int .i64 (j : Nat) ∧ v = .slice A5 m c5 ∧ wi.ownsRow WB9.heap.size 45 2 (.slice A5 m c5) m (fldCells ((st.take j).filter fun x => !hasF N3 x.1)) ∧ m ≤ c5 ∧ m ≤ j ∧ Ext WB9 wi) (fun _ i _ => ns - (intOf i).toNat)
        case atStart => exact ⟨0, 0, none, 0, Nat.zero_le _, rfl, rfl, World.ownsRow_nil _ _ _ _, Nat.le_refl _, Nat.le_refl _, Ext.refl _⟩
        case round =>
          obtain ⟨j, m, A5, c5, hj, rfl, rfl, hown, hmc, hmj, hbi⟩ := hrel
          by_cases hjt : j < ns
          · have hjt' : j < st.length := by have := Hls.out; omega
            obtain ⟨b, o, rfl, hc0, hc1⟩ := (HFs.out.ext (h9.trans hbi)).atF hjt'
            have hbd := (HSz.out.at_ hjt').1
            have Hk := Lib.hid (keep_step (nw := N3) hjt')
            have Hd := Lib.hid (drop_step (nw := N3) hjt')
            have HHas := Lib.hid (fun w5 (h5 : Ext W4 w5) => sto_has A' n' c' N3 st[j].1 w5 (HN.out.1.ext h5) (by have := Hnk.out; omega) (by omega) HB3.out)
            generalize hx : st[j] = x at *
            obtain ⟨nm, vl⟩ := x
            clear hx
            simp only at hbd hc0 hc1 Hk Hd HHas
            generalize hasF N3 nm = q at *
            go_wp2_with fail
            refine (HHas.out _ ((g9.trans hbi).alloc _)).mono ?_; rintro e w6 ⟨rfl, hb6⟩
            have hbi6 := (hbi.alloc (.cells #[.string nm, .string vl] 45)).trans hb6
            have hown6 := own_ext (hown.alloc (.cells #[.string nm, .string vl] 45)) hb6
            have x0 := hb6.cell (show (wr.alloc (.cells #[.string nm, .string vl] 45)).cell? ⟨wr.heap.size, 0, none⟩ = some (.string nm) from (Blk.new wr 45 #[.string nm, .string vl]).cell 0)
            have x1 := hb6.cell (show (wr.alloc (.cells #[.string nm, .string vl] 45)).cell? ⟨wr.heap.size, 1, none⟩ = some (.string vl) from (Blk.new wr 45 #[.string nm, .string vl]).cell 1)
            clear hb6 hown hbi
            cases q
            · have Hk2 := Lib.hid (Hk.out rfl)
              clear Hk Hd
              go_wp2_with (first
                | (at_builtin; refine wpList_app _ rfl (.tmp 76) (.tmp 78) 31 rfl WB9 45 _ 2 32 Tryz.underlying31 infoFld rfl (by decide) _ _ _ rfl (hown6.alloc _) _ 1 1 (fldCells [(nm, vl)]) rfl (Rd.two _ _ _ _ (by simp)) (fldCells_one _) (hbi6.alloc _) (by omega) (by decide) ?_; intro A7 c7 w7 hown7 hb7 hle7))
              go_roundw
              case rel => exact ⟨j + 1, m + 1, A7, c7, by omega, by go_num, rfl, by rw [Hk2.out, fldCells_app]; exact hown7, hle7, by omega, hb7⟩
              case measure => simp [intOf]; omega
            · have Hd2 := Lib.hid (Hd.out rfl)
              clear Hk Hd
              go_wp2_with fail
              go_roundw
              case rel => exact ⟨j + 1, m, A5, c5, by omega, by go_num, rfl, by rw [Hd2.out]; exact hown6, hmc, by omega, hbi6⟩
              case measure => simp [intOf]; omega
          · obtain rfl : j = ns := by omega
            have he : st.take j = st := List.take_of_length_le (by have := Hls.out; omega)
            rw [he] at hown
            clear he hjt
            have HN5 := Lib.hid (HN.out.1.ext (g9.trans hbi))
            have hnk := Hnk.out
            go_wp2_with (first
              | (at_builtin; refine wpList_app _ rfl (.tmp 81) (.tmp 82) 31 rfl WB9 45 _ 2 32 Tryz.underlying31 infoFld rfl (by decide) _ _ _ rfl hown _ n' c' (fldCells N3) rfl HN5.out (fldCells_one _) hbi (by omega) (by decide) ?_; intro A7 c7 w7 hown7 hb7 hle7))
            go_ret2
            exact ⟨by rw [HU.out]; exact ⟨A7, m + n', c7, rfl, by rw [← fldCells_app] at hown7; exact Rd.of_own hown7, hle7⟩, h9.trans hb7⟩
      go_wp2_with fail
      refine (HT1.out _ h9).mono ?_; rintro e w10 ⟨rfl, hb10⟩
      have h10 := h9.trans hb10
      have g10 := g9.trans hb10; clear hb10
      cases T1 with
      | none =>
        rw [show tagV none = .agg #[.bool false, .string ⟨#[]⟩] from rfl, show (none : Option (Bool × ByteArray)).isSome = false from rfl]
        go_wp2_with fail
        have h10 := h10.alloc (.cells #[.bool false, .string ⟨#[]⟩] 62)
        have g10 := g10.alloc (.cells #[.bool false, .string ⟨#[]⟩] 62)
        have HY := Lib.hid (Blk.new w10 62 #[.bool false, .string ⟨#[]⟩])
        refine (HT2.out _ h10).mono ?_; rintro e w11 ⟨rfl, hb11⟩
        have h11 := h10.trans hb11
        have g11 := g10.trans hb11
        have HY1 := Lib.hid (HY.out.ext hb11)
        clear HY hb11 h10 g10
        generalize w10.heap.size = b10 at *
        cases T2 with
        | none =>
          rw [show tagV none = .agg #[.bool false, .string ⟨#[]⟩] from rfl, show (none : Option (Bool × ByteArray)).isSome = false from rfl]
          have HU := Lib.hid (show U = none by rw [Hu.out]; rfl)
          clear Hu
          go_wp2_with fail
          go_ret2
          exact ⟨by rw [HU.out]; rfl, h11.alloc _⟩
        | some y =>
          obtain ⟨y1, y2⟩ := y
          rw [show tagV (some (y1, y2)) = .agg #[.bool y1, .string y2] from rfl, show (some (y1, y2)).isSome = true from rfl]
          have HU := Lib.hid (show U = none by rw [Hu.out]; rfl)
          clear Hu
          go_wp2_with fail
          go_ret2
          exact ⟨by rw [HU.out]; rfl, h11.alloc _⟩
      | some x =>
        obtain ⟨x1, x2⟩ := x
        rw [show tagV (some (x1, x2)) = .agg #[.bool x1, .string x2] from rfl, show (some (x1, x2)).isSome = true from rfl]
        go_wp2_with fail
        have h10 := h10.alloc (.cells #[.bool x1, .string x2] 62)
        have g10 := g10.alloc (.cells #[.bool x1, .string x2] 62)
        have HY := Lib.hid (Blk.new w10 62 #[.bool x1, .string x2])
        refine (HT2.out _ h10).mono ?_; rintro e w11 ⟨rfl, hb11⟩
        have h11 := h10.trans hb11
        have g11 := g10.trans hb11
        have HY1 := Lib.hid (HY.out.ext hb11)
        clear HY hb11 h10 g10
        generalize w10.heap.size = b10 at *
        cases T2 with
        | none =>
          rw [show tagV none = .agg #[.bool false, .string ⟨#[]⟩] from rfl, show (none : Option (Bool × ByteArray)).isSome = false from rfl]
          have HU := Lib.hid (show U = none by rw [Hu.out]; rfl)
          clear Hu
          go_wp2_with fail
          go_ret2
          exact ⟨by rw [HU.out]; rfl, h11.alloc _⟩
        | some y =>
          obtain ⟨y1, y2⟩ := y
          rw [show tagV (some (y1, y2)) = .agg #[.bool y1, .string y2] from rfl, show (some (y1, y2)).isSome = true from rfl]
          have h11 := h11.alloc (.cells #[.bool y1, .string y2] 62)
          have g11 := g11.alloc (.cells #[.bool y1, .string y2] 62)
          have HZ := Lib.hid (Blk.new w11 62 #[.bool y1, .string y2])
          have HY2 := Lib.hid (HY1.out.alloc (.cells #[.bool y1, .string y2] 62))
          have z0 := HZ.out.cell 0; have z1 := HZ.out.cell 1; have zx0 := HY2.out.cell 0; have zx1 := HY2.out.cell 1
          go_wp2_with fail
          refine (val_Weak x1 y1 x2 y2 _).mono ?_; rintro e w12 ⟨rfl, hb12⟩
          have h12 := h11.trans hb12
          have g12 := g11.trans hb12; clear hb12
          have Hq := Lib.hid (show tgEq (some (x1, x2)) (some (y1, y2)) = eqT x2 y2 from rfl)
          generalize tgEq (some (x1, x2)) (some (y1, y2)) = tq at *
          obtain rfl := Hq.out
          cases hq : eqT x2 y2
          · skip
            rw [hq] at Hu
            have HU := Lib.hid (show U = none by rw [Hu.out]; rfl)
            clear Hu
            go_wp2_with fail
            go_ret2
            exact ⟨by rw [HU.out]; rfl, h12⟩
          · skip
            rw [hq] at Hu
            generalize w12 = WB12 at *
            have HU := Lib.hid (show U = some ((st.filter fun x => !hasF N3 x.1) ++ N3) by rw [Hu.out]; rfl)
            clear Hu
            go_wp2_with fail
            go_loopw [13, 67] (fun v i wi => ∃ j m A5 c5, j ≤ ns ∧ i = .int .i64 (j : Nat) ∧ v = .slice A5 m c5 ∧ wi.ownsRow WB12.heap.size 45 2 (.slice A5 m c5) m (fldCells ((st.take j).filter fun x => !hasF N3 x.1)) ∧ m ≤ c5 ∧ m ≤ j ∧ Ext WB12 wi) (fun _ i _ => ns - (intOf i).toNat)
            case atStart => exact ⟨0, 0, none, 0, Nat.zero_le _, rfl, rfl, World.ownsRow_nil _ _ _ _, Nat.le_refl _, Nat.le_refl _, Ext.refl _⟩
            case round =>
              obtain ⟨j, m, A5, c5, hj, rfl, rfl, hown, hmc, hmj, hbi⟩ := hrel
              by_cases hjt : j < ns
              · have hjt' : j < st.length := by have := Hls.out; omega
                obtain ⟨b, o, rfl, hc0, hc1⟩ := (HFs.out.ext (h12.trans hbi)).atF hjt'
                have hbd := (HSz.out.at_ hjt').1
                have Hk := Lib.hid (keep_step (nw := N3) hjt')
                have Hd := Lib.hid (drop_step (nw := N3) hjt')
                have HHas := Lib.hid (fun w5 (h5 : Ext W4 w5) => sto_has A' n' c' N3 st[j].1 w5 (HN.out.1.ext h5) (by have := Hnk.out; omega) (by omega) HB3.out)
                generalize hx : st[j] = x at *
                obtain ⟨nm, vl⟩ := x
                clear hx
                simp only at hbd hc0 hc1 Hk Hd HHas
                generalize hasF N3 nm = q at *
                go_wp2_with fail
                refine (HHas.out _ ((g12.trans hbi).alloc _)).mono ?_; rintro e w6 ⟨rfl, hb6⟩
                have hbi6 := (hbi.alloc (.cells #[.string nm, .string vl] 45)).trans hb6
                have hown6 := own_ext (hown.alloc (.cells #[.string nm, .string vl] 45)) hb6
                have x0 := hb6.cell (show (wr.alloc (.cells #[.string nm, .string vl] 45)).cell? ⟨wr.heap.size, 0, none⟩ = some (.string nm) from (Blk.new wr 45 #[.string nm, .string vl]).cell 0)
                have x1 := hb6.cell (show (wr.alloc (.cells #[.string nm, .string vl] 45)).cell? ⟨wr.heap.size, 1, none⟩ = some (.string vl) from (Blk.new wr 45 #[.string nm, .string vl]).cell 1)
                clear hb6 hown hbi
                cases q
                · have Hk2 := Lib.hid (Hk.out rfl)
                  clear Hk Hd
                  go_wp2_with (first
                    | (at_builtin; refine wpList_app _ rfl (.tmp 76) (.tmp 78) 31 rfl WB12 45 _ 2 32 Tryz.underlying31 infoFld rfl (by decide) _ _ _ rfl (hown6.alloc _) _ 1 1 (fldCells [(nm, vl)]) rfl (Rd.two _ _ _ _ (by simp)) (fldCells_one _) (hbi6.alloc _) (by omega) (by decide) ?_; intro A7 c7 w7 hown7 hb7 hle7))
                  go_roundw
                  case rel => exact ⟨j + 1, m + 1, A7, c7, by omega, by go_num, rfl, by rw [Hk2.out, fldCells_app]; exact hown7, hle7, by omega, hb7⟩
                  case measure => simp [intOf]; omega
                · have Hd2 := Lib.hid (Hd.out rfl)
                  clear Hk Hd
                  go_wp2_with fail
                  go_roundw
                  case rel => exact ⟨j + 1, m, A5, c5, by omega, by go_num, rfl, by rw [Hd2.out]; exact hown6, hmc, by omega, hbi6⟩
                  case measure => simp [intOf]; omega
              · obtain rfl : j = ns := by omega
                have he : st.take j = st := List.take_of_length_le (by have := Hls.out; omega)
                rw [he] at hown
                clear he hjt
                have HN5 := Lib.hid (HN.out.1.ext (g12.trans hbi))
                have hnk := Hnk.out
                go_wp2_with (first
                  | (at_builtin; refine wpList_app _ rfl (.tmp 81) (.tmp 82) 31 rfl WB12 45 _ 2 32 Tryz.underlying31 infoFld rfl (by decide) _ _ _ rfl hown _ n' c' (fldCells N3) rfl HN5.out (fldCells_one _) hbi (by omega) (by decide) ?_; intro A7 c7 w7 hown7 hb7 hle7))
                go_ret2
                exact ⟨by rw [HU.out]; exact ⟨A7, m + n', c7, rfl, by rw [← fldCells_app] at hown7; exact Rd.of_own hown7, hle7⟩, h12.trans hb7⟩
end Go.Proofs.YtphgaommokgfcaaGreatDoor

namespace Go.Proofs.YtphgaommokgfcaaGreatDoor
open Go.RowKit

/-- wpList_appAt with a source that may be empty. -/
theorem wpList_appAtR {P : Program} (w : World) {ops : Array Oper} {rest : List Oper} {o : Oper} {a : Act} {Q : Exit → Act → World → Prop} (hgd : o.guard = none) (s x : Operand) (t : TypeId)
    (ho : o.op = .call { callee := .builtin .append, args := #[s, x], argTypes := #[t, t] })
    (w0 : World) (e : TypeId) (z : Value) (size bytes : Nat) (ht : P.underlying t = some (.slice e))
    (hinfo : (P.info? e).map (fun i => (i.zero, i.size, i.bytes)) = some (some z, size, bytes)) (hzs : z.cells.size = size) (hsz : 0 < size)
    (v : Value) (n : Nat) (xs : List Value) (hs : a.eval s = v) (hown : w.ownsRow w0.heap.size e size v n xs)
    (A : Option Addr) (m c : Nat) (news : List Value) (hx : a.eval x = .slice A m c) (hr : Rd w size A m news) (h1 : ∀ u ∈ news, u.oneCell' = true)
    (hb : Ext w0 w) (hbytes : (n + m) * bytes ≤ 140737488355328) (hby0 : 0 < bytes)
    (h : ∀ A' c' w', w'.ownsRow w0.heap.size e size (.slice A' (n + m) c') (n + m) (xs ++ news) → Ext w0 w' → n + m ≤ c' → w.grownBy w' v.ownBlock → ((Value.slice A' (n + m) c').ownBlock = v.ownBlock ∨ (Value.slice A' (n + m) c').ownBlock = some w.heap.size) → wpList P ops Q rest (a.put o.dst (.slice A' (n + m) c')) w') : wpList P ops Q (o :: rest) a w := by
  rcases A with _ | ad
  · have hn0 : news = [] := by
      rcases Nat.eq_zero_or_pos news.length with h0 | h0
      · exact List.eq_nil_of_length_eq_zero h0
      · obtain ⟨b, o, e, _⟩ := hr.2 h0; cases e
    subst hn0
    have hm : m = 0 := by
      rcases Nat.eq_zero_or_pos m with h | h
      · exact h
      · have h1 := hr.1
        have h2 := Nat.mul_pos h hsz
        rw [List.length_nil] at h1
        omega
    subst hm
    obtain ⟨A0, c0, rfl, hle⟩ := own_shape hown
    obtain ⟨i, hi, hz, hsize, hby⟩ := info_parts hinfo
    have hrun : (Builtin.append_ #[t, t] o.type #[.slice A0 n c0, .slice none 0 c]).run P w = .ok (.slice A0 n c0) w := by
      rcases hown.2 with ⟨hv, h0⟩ | ⟨g, cap, cur, hv, _, _, hnc, _⟩
      · injection hv with e1 e2 e3
        subst e1; subst e2; subst e3
        simp [Builtin.append_, run_underlying ht, sizeOf, typeInfo, hi, Builtin.lenOf, Builtin.firstCells]
      · injection hv with e1 e2 e3
        subst e1; subst e3
        simp [Builtin.append_, run_underlying ht, sizeOf, typeInfo, hi, Builtin.lenOf, Builtin.firstCells, hnc, storeCells]
    refine wpList_plain hgd fun K hK => ?_
    unfold Oper.wp execOp
    simp only [ho, resolve, invoke, builtin, Sem.run_bind, Sem.run_pure, Result.andThen_ok, List.map_toArray, List.map_cons, List.map_nil, hs, hx, hrun]
    exact hK _ _ (h A0 c0 w (by simpa using hown) hb hle (World.grownBy.refl w _) (Or.inl rfl))
  · refine wpList_appAt w hgd s x t ho w0 e z size bytes ht hinfo hzs hsz v n xs hs hown ad m c news hx hr.1 (fun j u hu => ?_) h1 hb hbytes hby0 h
    obtain ⟨b, o', e', hc⟩ := hr.2 (Nat.lt_of_le_of_lt (Nat.zero_le _) (List.getElem?_eq_some_iff.1 hu).1)
    injection e' with e'
    subst e'
    rw [add_plain]; exact hc j u hu

theorem hop_size : ∀ x ∈ hop, x.size ≤ 6000 := by decide +kernel
theorem namesR_size {V : List ByteArray} (h : ∀ v ∈ V, v.size ≤ 6000) : ∀ x ∈ namesR V, x.size ≤ 6000 := by
  intro x hx
  unfold namesR at hx
  rcases List.mem_append.1 hx with hx | hx
  · exact hop_size x hx
  · obtain ⟨v, hv, hxv⟩ := List.mem_flatMap.1 hx
    exact Nat.le_trans ((items_all (s := v)).1 x hxv) (h v hv)
theorem remAll_len (fs : List Fd) (ns : List ByteArray) : (remAll fs ns).length ≤ fs.length := List.length_filter_le _ _
theorem remAll_bsz {B : Nat} {fs : List Fd} {ns : List ByteArray} (h : Bsz B fs) : Bsz B (remAll fs ns) := fun f hf => h f (List.mem_filter.1 hf).1
theorem remAll_step {fs : List Fd} {ns : List ByteArray} {k : Nat} (h : k < ns.length) : remAll fs (ns.take (k + 1)) = remS (remAll fs (ns.take k)) ns[k] := by
  rw [take_step ns k h, remAll_snoc]
theorem cells_app (X Y : List ByteArray) : strCells (X ++ Y) = strCells X ++ strCells Y := List.map_append

set_option maxHeartbeats 1000000 in
theorem ref_AllO (A : Option Addr) (n c : Nat) (fs : List Fd) (name : ByteArray) (w : World) (hf : RdF w A n fs)
    (hn : n ≤ 1073741824) (hs : name.size ≤ 4611686018427387904) (hsz : ∀ f ∈ fs, f.1.size ≤ 4611686018427387904) :
    Calls Tryz.prog 19 #[.slice A n c, .string name] w fun e w' => ∃ A' n' c', e = .returned (.slice A' n' c') ∧ RdS w' A' n' (allS fs name) ∧ n' ≤ c' ∧ Ext w w' ∧ w'.ownsRow w.heap.size 9 1 (.slice A' n' c') n' (strCells (allS fs name)) := by
  go_enter Tryz.func19, Tryz.ntmps19
  go_wp2_with fail
  go_loopw [5, 9] (fun v i wr => ∃ k m A' c', k ≤ n ∧ i = .int .i64 (k : Nat) ∧ v = .slice A' m c' ∧ wr.ownsRow w.heap.size 9 1 (.slice A' m c') m (strCells (allS (fs.take k) name)) ∧ m ≤ c' ∧ Ext w wr) (fun _ i _ => n - (intOf i).toNat)
  case atStart => exact ⟨0, 0, none, 0, Nat.zero_le _, rfl, rfl, World.ownsRow_nil _ _ _ _, Nat.le_refl _, Ext.refl _⟩
  case round =>
    obtain ⟨k, m, A', c', hk, rfl, rfl, hown, hmc, hbr⟩ := hrel
    by_cases hlt : k < n
    · have hl := hf.lenF
      have hlt' : k < fs.length := by omega
      obtain ⟨b, o, rfl, hc0, hc1⟩ := (hf.ext hbr).atF hlt'
      have hbl := World.block_lt_of_cell? _ _ hc1
      have hbd := hsz fs[k] (List.getElem_mem hlt')
      have hm1 := hown.1
      simp only [List.length_map, Nat.mul_one] at hm1
      have hmk := allS_len fs name k
      rw [hm1] at hmk
      have Hl := Lib.hid hl; clear hl
      have Hm := Lib.hid hm1; clear hm1
      have hOf := fun w => ref_Of fs[k].1 fs[k].2 name w hbd hs
      have HOf := Lib.hid hOf; clear hOf
      by_cases hy : isN name fs[k] = true
      · have Hst := Lib.hid (allS_yes hlt' hy)
        have Hy := Lib.hid hy; clear hy
        go_wp2_with fail
        refine (HOf.out _).mono ?_; rintro e w2 ⟨rfl, hb2⟩
        have hc2 := hb2.cells; have hz2 := hb2.size
        have hy : isN name (fs[k].1, fs[k].2) = true := Hy.out
        generalize fs[k].1 = nm at *
        generalize fs[k].2 = vl at *
        go_wp2_with (first
          | (at_builtin; refine wpList_app _ rfl (.tmp 18) (.tmp 24) 54 rfl w 9 _ 1 16 Tryz.underlying54 infoStr rfl (by decide) _ _ _ rfl ((own_ext hown hb2).alloc _) _ 1 1 [.string vl] rfl (Rd.one _ _ _ (by simp)) (strCells_one [vl]) ((hbr.trans hb2).alloc _) (by omega) (by decide) ?_; intro A2 c2 w3 hown3 hb3 hle3))
        go_roundw
        case rel => exact ⟨k + 1, m + 1, A2, c2, by omega, by go_num, rfl, by rw [Hst.out]; simpa using hown3, hle3, hb3⟩
        case measure => simp [intOf]; omega
      · have hy : isN name fs[k] = false := by simpa using hy
        have Hst := Lib.hid (allS_no hlt' hy)
        have Hy := Lib.hid hy; clear hy
        go_wp2_with fail
        refine (HOf.out _).mono ?_; rintro e w2 ⟨rfl, hb2⟩
        have hy : isN name (fs[k].1, fs[k].2) = false := Hy.out
        go_wp2_with fail
        go_roundw
        case rel => exact ⟨k + 1, m, A', c', by omega, by go_num, rfl, by rw [Hst.out]; exact own_ext hown hb2, hmc, hbr.trans hb2⟩
        case measure => simp [intOf]; omega
    · have hk' : k = n := by omega
      have hl := hf.lenF
      go_wp2
      go_ret
      rw [List.take_of_length_le (by omega)] at hown
      exact ⟨_, _, _, rfl, Rd.of_own hown, hmc, hbr, hown⟩

set_option maxHeartbeats 2000000 in
theorem ref_Strip (A : Option Addr) (n c : Nat) (fs : List Fd) (w : World) (hf : RdF w A n fs) (hn : n ≤ 2000) (hsz : Bsz 6000 fs) :
    Calls Tryz.prog 31 #[.slice A n c] w fun e w' => ∃ A' n' c', e = .returned (.slice A' n' c') ∧ RdF w' A' n' (stripS fs) ∧ n' ≤ c' ∧ Ext w w' := by
  have hl := hf.lenF
  go_enter Tryz.func31, Tryz.ntmps31
  have Hl := Lib.hid hl; clear hl
  have hown0 : (w.alloc (.cells (strCells hop).toArray 9)).ownsRow w.heap.size 9 1 (.slice (some ⟨w.heap.size, 0, none⟩) 9 9) 9 (strCells hop) :=
    own_lit w (strCells hop).toArray 9 rfl 1 9 rfl (by simp [maxLen])
  have hb0 : Ext w (w.alloc (.cells (strCells hop).toArray 9)) := (Ext.refl w).alloc _
  have Hown0 := Lib.hid hown0; clear hown0
  have Hb0 := Lib.hid hb0; clear hb0
  go_wp2_with fail
  refine (ref_AllO _ _ _ fs connS (w.alloc (.cells (strCells hop).toArray 9)) (hf.ext Hb0.out) (by omega) (by decide) (fun f hff => by have := (hsz f hff).1; omega)).mono ?_; rintro e w1 ⟨A1, n1, c1, rfl, hr1, hc1, hb1, hown1⟩
  have hsep1 := Sep.of_own Hown0.out hown1
  have hnam1 := own_ext Hown0.out hb1
  have hbe1 := Hb0.out.trans hb1
  clear Hown0 Hb0 hown1
  have hva := all_bsz (name := connS) hsz
  have hvl := allS_len fs connS n
  rw [List.take_of_length_le (by have := Hl.out; omega)] at hvl
  have Hrs := Lib.hid (remAll_strip fs)
  generalize allS fs connS = V at *
  have hl1 := hr1.lenS
  have Hl1 := Lib.hid hl1; clear hl1
  have hn1 : n1 ≤ 2000 := by have := Hl1.out; omega
  clear hvl
  go_wp2_with fail
  go_loopw [3, 15] (fun v i wr => ∃ k m A' c', k ≤ n1 ∧ i = .int .i64 (k : Nat) ∧ v = .slice A' m c' ∧ wr.ownsRow w.heap.size 9 1 (.slice A' m c') m (strCells (namesR (V.take k))) ∧ m ≤ c' ∧ m ≤ 9 + k * 6001 ∧ Ext w wr ∧ RdS wr A1 n1 V ∧ Sep A1 n1 (.slice A' m c')) (fun _ i _ => n1 - (intOf i).toNat)
  case atStart => exact ⟨0, 9, _, 9, Nat.zero_le _, rfl, rfl, by rw [namesR_zero]; exact hnam1, Nat.le_refl _, by omega, hbe1, hr1, hsep1⟩
  case round =>
    obtain ⟨k, m, A', c', hk, rfl, rfl, hown, hmc, hmk, hbr, hrV, hsV⟩ := hrel
    by_cases hlt : k < n1
    · have hlt' : k < V.length := by have := Hl1.out; omega
      obtain ⟨b, o, rfl, hc0⟩ := hrV.atS hlt'
      have hvs := hva V[k] (List.getElem_mem hlt')
      have Hst := Lib.hid (namesR_step hlt')
      generalize V[k] = x at *
      go_wp2_with fail
      refine (ref_List x _ (by omega)).mono ?_; rintro e w2 ⟨A2, n2, c2, rfl, hr2, hc2, hb2⟩
      have hia := items_all (s := x)
      have hnam2 := own_ext hown hb2
      have hbe2 := hbr.trans hb2
      have hrV2 := Rd.ext hrV hb2
      cases hp : partsS x 44
      · have Hno := Lib.hid (items_none hp); clear hp
        have hmk1 : m ≤ 9 + (k + 1) * 6001 := Nat.le_trans hmk (Nat.add_le_add_left (Nat.mul_le_mul_right 6001 (Nat.le_succ k)) 9)
        rw [show (none : Option (List ByteArray)).isSome = false from rfl]
        go_wp2_with fail
        go_roundw
        case rel => exact ⟨k + 1, m, A', c', by omega, by go_num, rfl, by rw [Hst.out, Hno.out, List.append_nil]; exact hnam2, hmc, hmk1, hbe2, hrV2, hsV⟩
        case measure => simp [intOf]; omega
      · rename_i PP
        rw [show (some PP).isSome = true from rfl]
        clear hp PP
        generalize itemsS x = I at *
        have hl2 := hr2.lenS
        have Hl2 := Lib.hid hl2; clear hl2
        have hn2 : n2 ≤ 6001 := by have := Hl2.out; omega
        have hone := strCells_one I
        go_wp2_with (first
          | (at_builtin; refine wpList_appAtR _ rfl (.tmp 27) (.tmp 28) 54 rfl w 9 _ 1 16 Tryz.underlying54 infoStr rfl (by decide) _ _ _ rfl hnam2 A2 n2 c2 (strCells I) rfl hr2 hone hbe2 (by omega) (by decide) ?_; intro A4 c4 w4 hown4 hb4 hle4 hg4 ho4))
        go_roundw
        case rel => exact ⟨k + 1, m + n2, A4, c4, by omega, by go_num, by go_num, by rw [Hst.out, cells_app]; exact hown4, hle4, by omega, hb4, Rd.sep hrV2 hg4 hsV, Sep.next hrV2 hsV ho4⟩
        case measure => simp [intOf]; omega
    · obtain rfl : k = n1 := by omega
      have he : V.take k = V := List.take_of_length_le (by have := Hl1.out; omega)
      rw [he] at hown
      clear he
      have hns := namesR_size hva
      generalize namesR V = NR at *
      have hm8 : m ≤ 12002009 := by omega
      clear hmk
      rename World => W3
      have hrN := Rd.of_own hown
      have hlN := hrN.lenS
      have HlN := Lib.hid hlN; clear hlN
      have hfW := hf.ext hbr
      have howE : (W3.alloc (.cells #[] 44)).ownsRow W3.heap.size 44 2 (.slice (some ⟨W3.heap.size, 0, none⟩) 0 0) 0 [] := World.ownsRow_made W3 #[] 0 (Nat.le_refl _) (by simp [maxLen]) rfl
      have hone := fldCells_one fs
      go_wp2_with (first
        | (at_builtin; refine wpList_app _ rfl (.tmp 31) (.tmp 32) 22 rfl W3 44 _ 2 32 Tryz.underlying22 infoRfd rfl (by decide) _ _ _ rfl howE _ n c (fldCells fs) rfl (hfW.alloc _) hone ((Ext.refl W3).alloc _) (by omega) (by decide) ?_; intro A5 c5 w5 hown5 hb5 hle5))
      have hr5 := Rd.of_own hown5
      rw [Nat.zero_add, List.nil_append] at hr5
      rw [Nat.zero_add] at hle5
      go_wp2_with fail
      go_loopw [8, 36] (fun v i wf => ∃ j m2 B' d', j ≤ m ∧ i = .int .i64 (j : Nat) ∧ v = .slice B' m2 d' ∧ RdF wf B' m2 (remAll fs (NR.take j)) ∧ m2 ≤ d' ∧ Ext W3 wf) (fun _ i _ => m - (intOf i).toNat)
      case atStart => exact ⟨0, n, A5, c5, Nat.zero_le _, rfl, by go_num, by rw [List.take_zero, remAll_nil]; exact hr5, hle5, hb5⟩
      case round =>
        obtain ⟨j, m2, B', d', hj, rfl, rfl, hrf, hmd, hbf⟩ := hrel
        by_cases hjt : j < m
        · have hjt' : j < NR.length := by have := HlN.out; omega
          obtain ⟨b2, o2, rfl, hd0⟩ := (hrN.ext hbf).atS hjt'
          have hys := hns NR[j] (List.getElem_mem hjt')
          have Hst := Lib.hid (remAll_step (fs := fs) hjt')
          have hrl := remAll_len fs (NR.take j)
          have hrl2 := hrf.lenF
          have hm2 : m2 ≤ 2000 := by have := Hl.out; omega
          have hrb := (remAll_bsz (ns := NR.take j) hsz).mono (show 6000 ≤ 4611686018427387904 by omega)
          clear hrl hrl2
          generalize remAll fs (NR.take j) = R at *
          generalize NR[j] = y at *
          go_wp2_with fail
          refine (ref_Remove _ _ _ R y _ hrf (by omega) (by omega) hrb).mono ?_; rintro e w6 ⟨B6, m6, d6, rfl, hr6, hle6, hb6, -⟩
          go_wp2_with fail
          go_roundw
          case rel => exact ⟨j + 1, m6, B6, d6, by omega, by go_num, rfl, by rw [Hst.out]; exact hr6, hle6, hbf.trans hb6⟩
          case measure => simp [intOf]; omega
        · obtain rfl : j = m := by omega
          have he : NR.take j = NR := List.take_of_length_le (by have := HlN.out; omega)
          rw [he, Hrs.out] at hrf
          clear he
          go_wp2_with fail
          go_ret
          exact ⟨_, _, _, rfl, hrf, hmd, hbr.trans hbf⟩

end Go.Proofs.YtphgaommokgfcaaGreatDoor

namespace Go.Proofs.YtphgaommokgfcaaGreatDoor
open Go.RowKit

/-- What the reference's update returns. -/
def UpR (o : Option (List Fd)) (e : Ending) (w' : World) : Prop := match o with
  | some L => ∃ A' n' c', e = .returned (.tuple #[.slice A' n' c', .int .i64 0]) ∧ RdF w' A' n' L ∧ n' ≤ c'
  | none => e = .returned (.tuple #[.slice none 0 0, .int .i64 20])
set_option maxHeartbeats 16000000 in
set_option maxRecDepth 100000 in
theorem ref15_Update (As : Option Addr) (ns cs : Nat) (st : List Fd) (Af : Option Addr) (nf cf : Nat) (fr : List Fd) (w : World) (hfs : RdF w As ns st) (hff : RdF w Af nf fr)
    (hns : ns ≤ 1073741824) (hnf : nf ≤ 2000) (hszs : Bsz 1048576 st) (hszf : Bsz 6000 fr) :
    Calls Tryz.prog 11 #[.slice As ns cs, .slice Af nf cf] w fun e w' => UpR (updS st fr) e w' ∧ Ext w w' := by
  have hszf1 : Bsz 1048576 fr := hszf.mono (by decide)
  have HS := Lib.hid (fun w' (h : Ext w w') => ref_Strip Af nf cf fr w' (hff.ext h) hnf hszf)
  have HA1 := Lib.hid (fun w' (h : Ext w w') => ref_All As ns cs st etN w' (hfs.ext h) hns (by decide) (fun f hf => Nat.le_trans (hszs f hf).1 (by decide)))
  have HA2 := Lib.hid (fun w' (h : Ext w w') => ref_All Af nf cf fr etN w' (hff.ext h) (by omega) (by decide) (fun f hf => Nat.le_trans (hszf1 f hf).1 (by decide)))
  have HT1 := Lib.hid (fun w' (h : Ext w w') => ref15_Tag As ns cs st w' (hfs.ext h) hns hszs)
  have HT2 := Lib.hid (fun w' (h : Ext w w') => ref15_Tag Af nf cf fr w' (hff.ext h) (by omega) hszf1)
  have Hl1 := Lib.hid (len_all' hfs etN)
  have Hl2 := Lib.hid (len_all' hff etN)
  have Hls := Lib.hid hfs.lenF
  have Hnf := Lib.hid hnf
  have Hu := Lib.hid (show updS st fr = if decide (0 < (allS st etN).length) && decide (0 < (allS fr etN).length) && !decide (allS st etN = allS fr etN) && !tgEq (tgF st) (tgF fr) then none else some ((st.filter fun x => !hasF (rem3 (stripS fr) 3) x.1) ++ rem3 (stripS fr) 3) from rfl)
  have HFs := Lib.hid hfs
  have HSz := Lib.hid hszs
  have HBz := Lib.hid (show ∀ k, Bsz 1048576 (rem3 (stripS fr) k) from fun k f hf => hszf1 f (strip_sub fr f (rem3_sub _ k f hf)))
  have HNz := Lib.hid (show ∀ k, (rem3 (stripS fr) k).length ≤ 2000 from fun k => by
    have h1 := rem3_len (stripS fr) k
    have h2 : (stripS fr).length ≤ fr.length := List.length_filter_le _ _
    have h3 := hff.lenF
    omega)
  clear hszf1 hfs hff hszs hszf hnf
  have Hr0 := Lib.hid (show rem3 (stripS fr) 0 = stripS fr from rfl)
  have Hr1 := Lib.hid (fun k (h : k < threeN.length) => rem3_step (fs := stripS fr) h)
  generalize hRR : rem3 (stripS fr) = RR at *
  clear hRR
  generalize stripS fr = SF at *
  generalize updS st fr = U at *
  generalize allS st etN = L1 at *
  generalize allS fr etN = L2 at *
  generalize tgF st = T1 at *
  generalize tgF fr = T2 at *
  go_enter Tryz.func11, Tryz.ntmps11
  go_wp2_with fail
  refine (HA1.out _ (Ext.refl _)).mono ?_; rintro e w1 ⟨A1, n1, c1, rfl, hr1, hc1, hb1⟩
  have hl1 := hr1.lenS
  have hn1 : n1 ≤ 1073741824 := by have := Hl1.out; omega
  go_wp2_with fail
  refine (HA2.out _ hb1).mono ?_; rintro e w2 ⟨A2, n2, c2, rfl, hr2, hc2, hb2⟩
  have hl2 := hr2.lenS
  have hn2 : n2 ≤ 1073741824 := by have := Hl2.out; have := Hnf.out; omega
  have h2 := hb1.trans hb2
  have HTx := Lib.hid (base_Texts A1 A2 n1 c1 n2 c2 L1 L2 w2 (hr1.ext hb2) hr2 (by omega) (by omega))
  have Hlen := Lib.hid (⟨hl1, hl2⟩ : _ ∧ _)
  clear hr1 hr2 hc1 hc2 hb1 hb2 hl1 hl2
  rcases Nat.eq_zero_or_pos n1 with hp1 | hp1
  · skip
    have hz1 := Hlen.out.1
    have hq0 : decide (0 < L1.length) = false := decide_eq_false (by omega)
    clear hz1
    rw [hq0] at Hu; clear hq0
    subst hp1
    have HU := Lib.hid (show U = some ((st.filter fun x => !hasF (RR 3) x.1) ++ RR 3) by rw [Hu.out]; rfl)
    clear Hu Hlen HTx HT1 HT2 HA1 HA2
    go_wp2_with fail
    refine (HS.out _ h2).mono ?_; rintro e w21 ⟨A3, n3, c3, rfl, hr3, hc3, hb21⟩
    have hl3 : RdS (w21.alloc (.cells #[.string ⟨#[99, 111, 110, 116, 101, 110, 116, 45, 108, 101, 110, 103, 116, 104]⟩, .string ⟨#[99, 111, 110, 116, 101, 110, 116, 45, 101, 110, 99, 111, 100, 105, 110, 103]⟩, .string ⟨#[99, 111, 110, 116, 101, 110, 116, 45, 114, 97, 110, 103, 101]⟩] 9)) (some ⟨w21.heap.size, 0, none⟩) 3 threeN := Rd.lit w21 #[.string ⟨#[99, 111, 110, 116, 101, 110, 116, 45, 108, 101, 110, 103, 116, 104]⟩, .string ⟨#[99, 111, 110, 116, 101, 110, 116, 45, 101, 110, 99, 111, 100, 105, 110, 103]⟩, .string ⟨#[99, 111, 110, 116, 101, 110, 116, 45, 114, 97, 110, 103, 101]⟩] 9 rfl 1 3 rfl
    have HL3 := Lib.hid hl3; clear hl3
    have HE1 := Lib.hid ((h2.trans hb21).alloc (.cells #[.string ⟨#[99, 111, 110, 116, 101, 110, 116, 45, 108, 101, 110, 103, 116, 104]⟩, .string ⟨#[99, 111, 110, 116, 101, 110, 116, 45, 101, 110, 99, 111, 100, 105, 110, 103]⟩, .string ⟨#[99, 111, 110, 116, 101, 110, 116, 45, 114, 97, 110, 103, 101]⟩] 9))
    have HR1 := Lib.hid (hr3.ext ((Ext.refl w21).alloc (.cells #[.string ⟨#[99, 111, 110, 116, 101, 110, 116, 45, 108, 101, 110, 103, 116, 104]⟩, .string ⟨#[99, 111, 110, 116, 101, 110, 116, 45, 101, 110, 99, 111, 100, 105, 110, 103]⟩, .string ⟨#[99, 111, 110, 116, 101, 110, 116, 45, 114, 97, 110, 103, 101]⟩] 9)))
    clear hb21 hr3
    go_wp2_with fail
    generalize w21.alloc (.cells #[.string ⟨#[99, 111, 110, 116, 101, 110, 116, 45, 108, 101, 110, 103, 116, 104]⟩, .string ⟨#[99, 111, 110, 116, 101, 110, 116, 45, 101, 110, 99, 111, 100, 105, 110, 103]⟩, .string ⟨#[99, 111, 110, 116, 101, 110, 116, 45, 114, 97, 110, 103, 101]⟩] 9) = w22 at *
    generalize w21.heap.size = b2 at *
    go_loopw [1, 60] (fun v i wr => ∃ k A' n' c', k ≤ 3 ∧ i = .int .i64 (k : Nat) ∧ v = .slice A' n' c' ∧ RdF wr A' n' (RR k) ∧ n' ≤ c' ∧ Ext w22 wr) (fun _ i _ => 3 - (intOf i).toNat)
    case atStart => exact ⟨0, A3, n3, c3, Nat.zero_le _, rfl, rfl, by rw [Hr0.out]; exact HR1.out, hc3, Ext.refl _⟩
    case round =>
      obtain ⟨k, A', n', c', hk, rfl, rfl, hrk, hck, hbr⟩ := hrel
      have Hnk := Lib.hid (show n' ≤ 2000 by rw [← hrk.lenF]; exact HNz.out k)
      by_cases hlt : k < 3
      · have hlt' : k < threeN.length := hlt
        obtain ⟨b, o, hbo, hc0⟩ := (HL3.out.ext hbr).atS hlt'
        injection hbo with hbo
        injection hbo with e1 e2
        subst e1; subst e2
        rw [Nat.zero_add] at hc0
        have Hst := Lib.hid (Hr1.out k hlt')
        have HRm := Lib.hid (ref_Remove A' n' c' (RR k) threeN[k] wr hrk (by have := Hnk.out; omega) (by have := three_sz k hlt'; omega) ((HBz.out k).mono (by decide)))
        generalize threeN[k] = x at *
        go_wp2_with fail
        refine HRm.out.mono ?_; rintro e w3 ⟨A4, n4, c4, rfl, hr4, hc4, hb4, hown4⟩
        clear hown4
        go_wp2_with fail
        go_roundw
        case rel => exact ⟨k + 1, A4, n4, c4, by omega, by go_num, rfl, by rw [Hst.out]; exact hr4, hc4, hbr.trans hb4⟩
        case measure => simp [intOf]; omega
      · obtain rfl : k = 3 := by omega
        clear hlt hk
        have h4 := HE1.out.trans hbr
        have HN := Lib.hid (⟨hrk, hck⟩ : _ ∧ _)
        have HB3 := Lib.hid (HBz.out 3)
        clear hrk hck HE1 HL3 HR1 hbr HBz HNz Hr0 Hr1 HS
        generalize RR 3 = N3 at *
        generalize wr = W4 at *
        go_wp2_with fail
        go_loopw [14, 70] (fun v i wi => ∃ j m A5 c5, j ≤ ns ∧ i = .int .i64 (j : Nat) ∧ v = .slice A5 m c5 ∧ wi.ownsRow W4.heap.size 44 2 (.slice A5 m c5) m (fldCells ((st.take j).filter fun x => !hasF N3 x.1)) ∧ m ≤ c5 ∧ m ≤ j ∧ Ext W4 wi) (fun _ i _ => ns - (intOf i).toNat)
        case atStart => exact ⟨0, 0, none, 0, Nat.zero_le _, rfl, rfl, World.ownsRow_nil _ _ _ _, Nat.le_refl _, Nat.le_refl _, Ext.refl _⟩
        case round =>
          obtain ⟨j, m, A5, c5, hj, rfl, rfl, hown, hmc, hmj, hbi⟩ := hrel
          by_cases hjt : j < ns
          · have hjt' : j < st.length := by have := Hls.out; omega
            obtain ⟨b, o, rfl, hc0, hc1⟩ := (HFs.out.ext (h4.trans hbi)).atF hjt'
            have hbd := (HSz.out.at_ hjt').1
            have Hk := Lib.hid (keep_step (nw := N3) hjt')
            have Hd := Lib.hid (drop_step (nw := N3) hjt')
            have HHas := Lib.hid (fun w5 (h5 : Ext W4 w5) => ref_All A' n' c' N3 st[j].1 w5 (HN.out.1.ext h5) (by have := Hnk.out; omega) (by omega) (fun f hf => Nat.le_trans (HB3.out f hf).1 (by decide)))
            have Hlq := Lib.hid (len_all' HN.out.1 st[j].1)
            have Hhq := Lib.hid (show hasF N3 st[j].1 = decide (0 < (allS N3 st[j].1).length) from rfl)
            generalize hx : st[j] = x at *
            obtain ⟨nm, vl⟩ := x
            clear hx
            simp only at hbd hc0 hc1 Hk Hd HHas Hlq Hhq
            generalize hasF N3 nm = q at *
            generalize allS N3 nm = LQ at *
            go_wp2_with fail
            refine (HHas.out _ (hbi.alloc _)).mono ?_; rintro e w6 ⟨A6, n6, c6, rfl, hr6, hc6, hb6⟩
            have hbi6 := (hbi.alloc (.cells #[.string nm, .string vl] 44)).trans hb6
            have hown6 := own_ext (hown.alloc (.cells #[.string nm, .string vl] 44)) hb6
            have x0 := hb6.cell (show (wr.alloc (.cells #[.string nm, .string vl] 44)).cell? ⟨wr.heap.size, 0, none⟩ = some (.string nm) from (Blk.new wr 44 #[.string nm, .string vl]).cell 0)
            have x1 := hb6.cell (show (wr.alloc (.cells #[.string nm, .string vl] 44)).cell? ⟨wr.heap.size, 1, none⟩ = some (.string vl) from (Blk.new wr 44 #[.string nm, .string vl]).cell 1)
            have hl6 := hr6.lenS
            have hn6 : n6 ≤ 2000 := by have := Hlq.out; have := Hnk.out; omega
            clear hb6 hown hbi hr6 hc6
            rcases Nat.eq_zero_or_pos n6 with hp6 | hp6
            · obtain rfl : false = q := by rw [Hhq.out, decide_eq_false (by omega)]
              have Hk2 := Lib.hid (Hk.out rfl)
              subst hp6
              clear Hk Hd Hhq Hlq hl6 hn6
              go_wp2_with (first
                | (at_builtin; refine wpList_app _ rfl (.tmp 80) (.tmp 82) 22 rfl W4 44 _ 2 32 Tryz.underlying22 infoRfd rfl (by decide) _ _ _ rfl (hown6.alloc _) _ 1 1 (fldCells [(nm, vl)]) rfl (Rd.two _ _ _ _ (by simp)) (fldCells_one _) (hbi6.alloc _) (by omega) (by decide) ?_; intro A7 c7 w7 hown7 hb7 hle7))
              refine ⟨?_, ?measure⟩
              refine ⟨_, _, _, _, _, _, _, _, _, _, _, _, _, _, _, _, _, ?rel, rfl⟩
              case rel => exact ⟨j + 1, m + 1, A7, c7, by omega, by go_num, rfl, by rw [Hk2.out, fldCells_app]; exact hown7, hle7, by omega, hb7⟩
              case measure => simp [intOf]; omega
            · obtain rfl : true = q := by rw [Hhq.out, decide_eq_true (by omega)]
              have Hd2 := Lib.hid (Hd.out rfl)
              have hz6 : ((n6 : Int) == 0) = false := by simp; omega
              clear Hk Hd Hhq Hlq hl6
              go_wp2_with fail
              refine ⟨?_, ?measure⟩
              refine ⟨_, _, _, _, _, _, _, _, _, _, _, _, _, _, _, _, _, ?rel, rfl⟩
              case rel => exact ⟨j + 1, m, A5, c5, by omega, by go_num, rfl, by rw [Hd2.out]; exact hown6, hmc, by omega, hbi6⟩
              case measure => simp [intOf]; omega
          · obtain rfl : j = ns := by omega
            have he : st.take j = st := List.take_of_length_le (by have := Hls.out; omega)
            rw [he] at hown
            clear he hjt
            have HN5 := Lib.hid (HN.out.1.ext hbi)
            have hnk := Hnk.out
            go_wp2_with (first
              | (at_builtin; refine wpList_app _ rfl (.tmp 85) (.tmp 86) 22 rfl W4 44 _ 2 32 Tryz.underlying22 infoRfd rfl (by decide) _ _ _ rfl hown _ n' c' (fldCells N3) rfl HN5.out (fldCells_one _) hbi (by omega) (by decide) ?_; intro A7 c7 w7 hown7 hb7 hle7))
            go_ret2
            exact ⟨by rw [HU.out]; exact ⟨A7, m + n', c7, rfl, by rw [← fldCells_app] at hown7; exact Rd.of_own hown7, hle7⟩, h4.trans hb7⟩
  have hz1 : decide (0 < L1.length) = true := decide_eq_true (by have := Hlen.out.1; omega)
  rw [hz1] at Hu; clear hz1
  rcases Nat.eq_zero_or_pos n2 with hp2 | hp2
  · skip
    have hz1 := Hlen.out.2
    have hq0 : decide (0 < L2.length) = false := decide_eq_false (by omega)
    clear hz1
    rw [hq0] at Hu; clear hq0
    subst hp2
    have HU := Lib.hid (show U = some ((st.filter fun x => !hasF (RR 3) x.1) ++ RR 3) by rw [Hu.out]; rfl)
    clear Hu Hlen HTx HT1 HT2 HA1 HA2
    go_wp2_with fail
    refine (HS.out _ h2).mono ?_; rintro e w21 ⟨A3, n3, c3, rfl, hr3, hc3, hb21⟩
    have hl3 : RdS (w21.alloc (.cells #[.string ⟨#[99, 111, 110, 116, 101, 110, 116, 45, 108, 101, 110, 103, 116, 104]⟩, .string ⟨#[99, 111, 110, 116, 101, 110, 116, 45, 101, 110, 99, 111, 100, 105, 110, 103]⟩, .string ⟨#[99, 111, 110, 116, 101, 110, 116, 45, 114, 97, 110, 103, 101]⟩] 9)) (some ⟨w21.heap.size, 0, none⟩) 3 threeN := Rd.lit w21 #[.string ⟨#[99, 111, 110, 116, 101, 110, 116, 45, 108, 101, 110, 103, 116, 104]⟩, .string ⟨#[99, 111, 110, 116, 101, 110, 116, 45, 101, 110, 99, 111, 100, 105, 110, 103]⟩, .string ⟨#[99, 111, 110, 116, 101, 110, 116, 45, 114, 97, 110, 103, 101]⟩] 9 rfl 1 3 rfl
    have HL3 := Lib.hid hl3; clear hl3
    have HE1 := Lib.hid ((h2.trans hb21).alloc (.cells #[.string ⟨#[99, 111, 110, 116, 101, 110, 116, 45, 108, 101, 110, 103, 116, 104]⟩, .string ⟨#[99, 111, 110, 116, 101, 110, 116, 45, 101, 110, 99, 111, 100, 105, 110, 103]⟩, .string ⟨#[99, 111, 110, 116, 101, 110, 116, 45, 114, 97, 110, 103, 101]⟩] 9))
    have HR1 := Lib.hid (hr3.ext ((Ext.refl w21).alloc (.cells #[.string ⟨#[99, 111, 110, 116, 101, 110, 116, 45, 108, 101, 110, 103, 116, 104]⟩, .string ⟨#[99, 111, 110, 116, 101, 110, 116, 45, 101, 110, 99, 111, 100, 105, 110, 103]⟩, .string ⟨#[99, 111, 110, 116, 101, 110, 116, 45, 114, 97, 110, 103, 101]⟩] 9)))
    clear hb21 hr3
    go_wp2_with fail
    generalize w21.alloc (.cells #[.string ⟨#[99, 111, 110, 116, 101, 110, 116, 45, 108, 101, 110, 103, 116, 104]⟩, .string ⟨#[99, 111, 110, 116, 101, 110, 116, 45, 101, 110, 99, 111, 100, 105, 110, 103]⟩, .string ⟨#[99, 111, 110, 116, 101, 110, 116, 45, 114, 97, 110, 103, 101]⟩] 9) = w22 at *
    generalize w21.heap.size = b2 at *
    go_loopw [1, 60] (fun v i wr => ∃ k A' n' c', k ≤ 3 ∧ i = .int .i64 (k : Nat) ∧ v = .slice A' n' c' ∧ RdF wr A' n' (RR k) ∧ n' ≤ c' ∧ Ext w22 wr) (fun _ i _ => 3 - (intOf i).toNat)
    case atStart => exact ⟨0, A3, n3, c3, Nat.zero_le _, rfl, rfl, by rw [Hr0.out]; exact HR1.out, hc3, Ext.refl _⟩
    case round =>
      obtain ⟨k, A', n', c', hk, rfl, rfl, hrk, hck, hbr⟩ := hrel
      have Hnk := Lib.hid (show n' ≤ 2000 by rw [← hrk.lenF]; exact HNz.out k)
      by_cases hlt : k < 3
      · have hlt' : k < threeN.length := hlt
        obtain ⟨b, o, hbo, hc0⟩ := (HL3.out.ext hbr).atS hlt'
        injection hbo with hbo
        injection hbo with e1 e2
        subst e1; subst e2
        rw [Nat.zero_add] at hc0
        have Hst := Lib.hid (Hr1.out k hlt')
        have HRm := Lib.hid (ref_Remove A' n' c' (RR k) threeN[k] wr hrk (by have := Hnk.out; omega) (by have := three_sz k hlt'; omega) ((HBz.out k).mono (by decide)))
        generalize threeN[k] = x at *
        go_wp2_with fail
        refine HRm.out.mono ?_; rintro e w3 ⟨A4, n4, c4, rfl, hr4, hc4, hb4, hown4⟩
        clear hown4
        go_wp2_with fail
        go_roundw
        case rel => exact ⟨k + 1, A4, n4, c4, by omega, by go_num, rfl, by rw [Hst.out]; exact hr4, hc4, hbr.trans hb4⟩
        case measure => simp [intOf]; omega
      · obtain rfl : k = 3 := by omega
        clear hlt hk
        have h4 := HE1.out.trans hbr
        have HN := Lib.hid (⟨hrk, hck⟩ : _ ∧ _)
        have HB3 := Lib.hid (HBz.out 3)
        clear hrk hck HE1 HL3 HR1 hbr HBz HNz Hr0 Hr1 HS
        generalize RR 3 = N3 at *
        generalize wr = W4 at *
        go_wp2_with fail
        go_loopw [14, 70] (fun v i wi => ∃ j m A5 c5, j ≤ ns ∧ i = .int .i64 (j : Nat) ∧ v = .slice A5 m c5 ∧ wi.ownsRow W4.heap.size 44 2 (.slice A5 m c5) m (fldCells ((st.take j).filter fun x => !hasF N3 x.1)) ∧ m ≤ c5 ∧ m ≤ j ∧ Ext W4 wi) (fun _ i _ => ns - (intOf i).toNat)
        case atStart => exact ⟨0, 0, none, 0, Nat.zero_le _, rfl, rfl, World.ownsRow_nil _ _ _ _, Nat.le_refl _, Nat.le_refl _, Ext.refl _⟩
        case round =>
          obtain ⟨j, m, A5, c5, hj, rfl, rfl, hown, hmc, hmj, hbi⟩ := hrel
          by_cases hjt : j < ns
          · have hjt' : j < st.length := by have := Hls.out; omega
            obtain ⟨b, o, rfl, hc0, hc1⟩ := (HFs.out.ext (h4.trans hbi)).atF hjt'
            have hbd := (HSz.out.at_ hjt').1
            have Hk := Lib.hid (keep_step (nw := N3) hjt')
            have Hd := Lib.hid (drop_step (nw := N3) hjt')
            have HHas := Lib.hid (fun w5 (h5 : Ext W4 w5) => ref_All A' n' c' N3 st[j].1 w5 (HN.out.1.ext h5) (by have := Hnk.out; omega) (by omega) (fun f hf => Nat.le_trans (HB3.out f hf).1 (by decide)))
            have Hlq := Lib.hid (len_all' HN.out.1 st[j].1)
            have Hhq := Lib.hid (show hasF N3 st[j].1 = decide (0 < (allS N3 st[j].1).length) from rfl)
            generalize hx : st[j] = x at *
            obtain ⟨nm, vl⟩ := x
            clear hx
            simp only at hbd hc0 hc1 Hk Hd HHas Hlq Hhq
            generalize hasF N3 nm = q at *
            generalize allS N3 nm = LQ at *
            go_wp2_with fail
            refine (HHas.out _ (hbi.alloc _)).mono ?_; rintro e w6 ⟨A6, n6, c6, rfl, hr6, hc6, hb6⟩
            have hbi6 := (hbi.alloc (.cells #[.string nm, .string vl] 44)).trans hb6
            have hown6 := own_ext (hown.alloc (.cells #[.string nm, .string vl] 44)) hb6
            have x0 := hb6.cell (show (wr.alloc (.cells #[.string nm, .string vl] 44)).cell? ⟨wr.heap.size, 0, none⟩ = some (.string nm) from (Blk.new wr 44 #[.string nm, .string vl]).cell 0)
            have x1 := hb6.cell (show (wr.alloc (.cells #[.string nm, .string vl] 44)).cell? ⟨wr.heap.size, 1, none⟩ = some (.string vl) from (Blk.new wr 44 #[.string nm, .string vl]).cell 1)
            have hl6 := hr6.lenS
            have hn6 : n6 ≤ 2000 := by have := Hlq.out; have := Hnk.out; omega
            clear hb6 hown hbi hr6 hc6
            rcases Nat.eq_zero_or_pos n6 with hp6 | hp6
            · obtain rfl : false = q := by rw [Hhq.out, decide_eq_false (by omega)]
              have Hk2 := Lib.hid (Hk.out rfl)
              subst hp6
              clear Hk Hd Hhq Hlq hl6 hn6
              go_wp2_with (first
                | (at_builtin; refine wpList_app _ rfl (.tmp 80) (.tmp 82) 22 rfl W4 44 _ 2 32 Tryz.underlying22 infoRfd rfl (by decide) _ _ _ rfl (hown6.alloc _) _ 1 1 (fldCells [(nm, vl)]) rfl (Rd.two _ _ _ _ (by simp)) (fldCells_one _) (hbi6.alloc _) (by omega) (by decide) ?_; intro A7 c7 w7 hown7 hb7 hle7))
              refine ⟨?_, ?measure⟩
              refine ⟨_, _, _, _, _, _, _, _, _, _, _, _, _, _, _, _, _, ?rel, rfl⟩
              case rel => exact ⟨j + 1, m + 1, A7, c7, by omega, by go_num, rfl, by rw [Hk2.out, fldCells_app]; exact hown7, hle7, by omega, hb7⟩
              case measure => simp [intOf]; omega
            · obtain rfl : true = q := by rw [Hhq.out, decide_eq_true (by omega)]
              have Hd2 := Lib.hid (Hd.out rfl)
              have hz6 : ((n6 : Int) == 0) = false := by simp; omega
              clear Hk Hd Hhq Hlq hl6
              go_wp2_with fail
              refine ⟨?_, ?measure⟩
              refine ⟨_, _, _, _, _, _, _, _, _, _, _, _, _, _, _, _, _, ?rel, rfl⟩
              case rel => exact ⟨j + 1, m, A5, c5, by omega, by go_num, rfl, by rw [Hd2.out]; exact hown6, hmc, by omega, hbi6⟩
              case measure => simp [intOf]; omega
          · obtain rfl : j = ns := by omega
            have he : st.take j = st := List.take_of_length_le (by have := Hls.out; omega)
            rw [he] at hown
            clear he hjt
            have HN5 := Lib.hid (HN.out.1.ext hbi)
            have hnk := Hnk.out
            go_wp2_with (first
              | (at_builtin; refine wpList_app _ rfl (.tmp 85) (.tmp 86) 22 rfl W4 44 _ 2 32 Tryz.underlying22 infoRfd rfl (by decide) _ _ _ rfl hown _ n' c' (fldCells N3) rfl HN5.out (fldCells_one _) hbi (by omega) (by decide) ?_; intro A7 c7 w7 hown7 hb7 hle7))
            go_ret2
            exact ⟨by rw [HU.out]; exact ⟨A7, m + n', c7, rfl, by rw [← fldCells_app] at hown7; exact Rd.of_own hown7, hle7⟩, h4.trans hb7⟩
  have hz1 : decide (0 < L2.length) = true := decide_eq_true (by have := Hlen.out.2; omega)
  rw [hz1] at Hu; clear hz1
  generalize decide (L1 = L2) = q at *
  go_wp2_with fail
  refine HTx.out.mono ?_; rintro e w3 ⟨rfl, hb3⟩
  have h3 := h2.trans hb3; clear hb3
  cases q
  rotate_left
  · skip
    have HU := Lib.hid (show U = some ((st.filter fun x => !hasF (RR 3) x.1) ++ RR 3) by rw [Hu.out]; rfl)
    clear Hu Hlen HTx HT1 HT2 HA1 HA2
    go_wp2_with fail
    refine (HS.out _ h3).mono ?_; rintro e w21 ⟨A3, n3, c3, rfl, hr3, hc3, hb21⟩
    have hl3 : RdS (w21.alloc (.cells #[.string ⟨#[99, 111, 110, 116, 101, 110, 116, 45, 108, 101, 110, 103, 116, 104]⟩, .string ⟨#[99, 111, 110, 116, 101, 110, 116, 45, 101, 110, 99, 111, 100, 105, 110, 103]⟩, .string ⟨#[99, 111, 110, 116, 101, 110, 116, 45, 114, 97, 110, 103, 101]⟩] 9)) (some ⟨w21.heap.size, 0, none⟩) 3 threeN := Rd.lit w21 #[.string ⟨#[99, 111, 110, 116, 101, 110, 116, 45, 108, 101, 110, 103, 116, 104]⟩, .string ⟨#[99, 111, 110, 116, 101, 110, 116, 45, 101, 110, 99, 111, 100, 105, 110, 103]⟩, .string ⟨#[99, 111, 110, 116, 101, 110, 116, 45, 114, 97, 110, 103, 101]⟩] 9 rfl 1 3 rfl
    have HL3 := Lib.hid hl3; clear hl3
    have HE1 := Lib.hid ((h3.trans hb21).alloc (.cells #[.string ⟨#[99, 111, 110, 116, 101, 110, 116, 45, 108, 101, 110, 103, 116, 104]⟩, .string ⟨#[99, 111, 110, 116, 101, 110, 116, 45, 101, 110, 99, 111, 100, 105, 110, 103]⟩, .string ⟨#[99, 111, 110, 116, 101, 110, 116, 45, 114, 97, 110, 103, 101]⟩] 9))
    have HR1 := Lib.hid (hr3.ext ((Ext.refl w21).alloc (.cells #[.string ⟨#[99, 111, 110, 116, 101, 110, 116, 45, 108, 101, 110, 103, 116, 104]⟩, .string ⟨#[99, 111, 110, 116, 101, 110, 116, 45, 101, 110, 99, 111, 100, 105, 110, 103]⟩, .string ⟨#[99, 111, 110, 116, 101, 110, 116, 45, 114, 97, 110, 103, 101]⟩] 9)))
    clear hb21 hr3
    go_wp2_with fail
    generalize w21.alloc (.cells #[.string ⟨#[99, 111, 110, 116, 101, 110, 116, 45, 108, 101, 110, 103, 116, 104]⟩, .string ⟨#[99, 111, 110, 116, 101, 110, 116, 45, 101, 110, 99, 111, 100, 105, 110, 103]⟩, .string ⟨#[99, 111, 110, 116, 101, 110, 116, 45, 114, 97, 110, 103, 101]⟩] 9) = w22 at *
    generalize w21.heap.size = b2 at *
    go_loopw [1, 60] (fun v i wr => ∃ k A' n' c', k ≤ 3 ∧ i = .int .i64 (k : Nat) ∧ v = .slice A' n' c' ∧ RdF wr A' n' (RR k) ∧ n' ≤ c' ∧ Ext w22 wr) (fun _ i _ => 3 - (intOf i).toNat)
    case atStart => exact ⟨0, A3, n3, c3, Nat.zero_le _, rfl, rfl, by rw [Hr0.out]; exact HR1.out, hc3, Ext.refl _⟩
    case round =>
      obtain ⟨k, A', n', c', hk, rfl, rfl, hrk, hck, hbr⟩ := hrel
      have Hnk := Lib.hid (show n' ≤ 2000 by rw [← hrk.lenF]; exact HNz.out k)
      by_cases hlt : k < 3
      · have hlt' : k < threeN.length := hlt
        obtain ⟨b, o, hbo, hc0⟩ := (HL3.out.ext hbr).atS hlt'
        injection hbo with hbo
        injection hbo with e1 e2
        subst e1; subst e2
        rw [Nat.zero_add] at hc0
        have Hst := Lib.hid (Hr1.out k hlt')
        have HRm := Lib.hid (ref_Remove A' n' c' (RR k) threeN[k] wr hrk (by have := Hnk.out; omega) (by have := three_sz k hlt'; omega) ((HBz.out k).mono (by decide)))
        generalize threeN[k] = x at *
        go_wp2_with fail
        refine HRm.out.mono ?_; rintro e w3 ⟨A4, n4, c4, rfl, hr4, hc4, hb4, hown4⟩
        clear hown4
        go_wp2_with fail
        go_roundw
        case rel => exact ⟨k + 1, A4, n4, c4, by omega, by go_num, rfl, by rw [Hst.out]; exact hr4, hc4, hbr.trans hb4⟩
        case measure => simp [intOf]; omega
      · obtain rfl : k = 3 := by omega
        clear hlt hk
        have h4 := HE1.out.trans hbr
        have HN := Lib.hid (⟨hrk, hck⟩ : _ ∧ _)
        have HB3 := Lib.hid (HBz.out 3)
        clear hrk hck HE1 HL3 HR1 hbr HBz HNz Hr0 Hr1 HS
        generalize RR 3 = N3 at *
        generalize wr = W4 at *
        go_wp2_with fail
        go_loopw [14, 70] (fun v i wi => ∃ j m A5 c5, j ≤ ns ∧ i = .int .i64 (j : Nat) ∧ v = .slice A5 m c5 ∧ wi.ownsRow W4.heap.size 44 2 (.slice A5 m c5) m (fldCells ((st.take j).filter fun x => !hasF N3 x.1)) ∧ m ≤ c5 ∧ m ≤ j ∧ Ext W4 wi) (fun _ i _ => ns - (intOf i).toNat)
        case atStart => exact ⟨0, 0, none, 0, Nat.zero_le _, rfl, rfl, World.ownsRow_nil _ _ _ _, Nat.le_refl _, Nat.le_refl _, Ext.refl _⟩
        case round =>
          obtain ⟨j, m, A5, c5, hj, rfl, rfl, hown, hmc, hmj, hbi⟩ := hrel
          by_cases hjt : j < ns
          · have hjt' : j < st.length := by have := Hls.out; omega
            obtain ⟨b, o, rfl, hc0, hc1⟩ := (HFs.out.ext (h4.trans hbi)).atF hjt'
            have hbd := (HSz.out.at_ hjt').1
            have Hk := Lib.hid (keep_step (nw := N3) hjt')
            have Hd := Lib.hid (drop_step (nw := N3) hjt')
            have HHas := Lib.hid (fun w5 (h5 : Ext W4 w5) => ref_All A' n' c' N3 st[j].1 w5 (HN.out.1.ext h5) (by have := Hnk.out; omega) (by omega) (fun f hf => Nat.le_trans (HB3.out f hf).1 (by decide)))
            have Hlq := Lib.hid (len_all' HN.out.1 st[j].1)
            have Hhq := Lib.hid (show hasF N3 st[j].1 = decide (0 < (allS N3 st[j].1).length) from rfl)
            generalize hx : st[j] = x at *
            obtain ⟨nm, vl⟩ := x
            clear hx
            simp only at hbd hc0 hc1 Hk Hd HHas Hlq Hhq
            generalize hasF N3 nm = q at *
            generalize allS N3 nm = LQ at *
            go_wp2_with fail
            refine (HHas.out _ (hbi.alloc _)).mono ?_; rintro e w6 ⟨A6, n6, c6, rfl, hr6, hc6, hb6⟩
            have hbi6 := (hbi.alloc (.cells #[.string nm, .string vl] 44)).trans hb6
            have hown6 := own_ext (hown.alloc (.cells #[.string nm, .string vl] 44)) hb6
            have x0 := hb6.cell (show (wr.alloc (.cells #[.string nm, .string vl] 44)).cell? ⟨wr.heap.size, 0, none⟩ = some (.string nm) from (Blk.new wr 44 #[.string nm, .string vl]).cell 0)
            have x1 := hb6.cell (show (wr.alloc (.cells #[.string nm, .string vl] 44)).cell? ⟨wr.heap.size, 1, none⟩ = some (.string vl) from (Blk.new wr 44 #[.string nm, .string vl]).cell 1)
            have hl6 := hr6.lenS
            have hn6 : n6 ≤ 2000 := by have := Hlq.out; have := Hnk.out; omega
            clear hb6 hown hbi hr6 hc6
            rcases Nat.eq_zero_or_pos n6 with hp6 | hp6
            · obtain rfl : false = q := by rw [Hhq.out, decide_eq_false (by omega)]
              have Hk2 := Lib.hid (Hk.out rfl)
              subst hp6
              clear Hk Hd Hhq Hlq hl6 hn6
              go_wp2_with (first
                | (at_builtin; refine wpList_app _ rfl (.tmp 80) (.tmp 82) 22 rfl W4 44 _ 2 32 Tryz.underlying22 infoRfd rfl (by decide) _ _ _ rfl (hown6.alloc _) _ 1 1 (fldCells [(nm, vl)]) rfl (Rd.two _ _ _ _ (by simp)) (fldCells_one _) (hbi6.alloc _) (by omega) (by decide) ?_; intro A7 c7 w7 hown7 hb7 hle7))
              refine ⟨?_, ?measure⟩
              refine ⟨_, _, _, _, _, _, _, _, _, _, _, _, _, _, _, _, _, ?rel, rfl⟩
              case rel => exact ⟨j + 1, m + 1, A7, c7, by omega, by go_num, rfl, by rw [Hk2.out, fldCells_app]; exact hown7, hle7, by omega, hb7⟩
              case measure => simp [intOf]; omega
            · obtain rfl : true = q := by rw [Hhq.out, decide_eq_true (by omega)]
              have Hd2 := Lib.hid (Hd.out rfl)
              have hz6 : ((n6 : Int) == 0) = false := by simp; omega
              clear Hk Hd Hhq Hlq hl6
              go_wp2_with fail
              refine ⟨?_, ?measure⟩
              refine ⟨_, _, _, _, _, _, _, _, _, _, _, _, _, _, _, _, _, ?rel, rfl⟩
              case rel => exact ⟨j + 1, m, A5, c5, by omega, by go_num, rfl, by rw [Hd2.out]; exact hown6, hmc, by omega, hbi6⟩
              case measure => simp [intOf]; omega
          · obtain rfl : j = ns := by omega
            have he : st.take j = st := List.take_of_length_le (by have := Hls.out; omega)
            rw [he] at hown
            clear he hjt
            have HN5 := Lib.hid (HN.out.1.ext hbi)
            have hnk := Hnk.out
            go_wp2_with (first
              | (at_builtin; refine wpList_app _ rfl (.tmp 85) (.tmp 86) 22 rfl W4 44 _ 2 32 Tryz.underlying22 infoRfd rfl (by decide) _ _ _ rfl hown _ n' c' (fldCells N3) rfl HN5.out (fldCells_one _) hbi (by omega) (by decide) ?_; intro A7 c7 w7 hown7 hb7 hle7))
            go_ret2
            exact ⟨by rw [HU.out]; exact ⟨A7, m + n', c7, rfl, by rw [← fldCells_app] at hown7; exact Rd.of_own hown7, hle7⟩, h4.trans hb7⟩
  go_wp2_with fail
  refine (HT1.out _ h3).mono ?_; rintro e w4 ⟨rfl, hb4⟩
  have h4 := h3.trans hb4; clear hb4
  cases T1 with
  | none =>
    rw [show rtV ((none : Option (Bool × ByteArray)).map (·.2)) = .tuple #[.string ⟨#[]⟩, .bool false] from rfl]
    go_wp2_with fail
    refine (HT2.out _ h4).mono ?_; rintro e w5 ⟨rfl, hb5⟩
    have h5 := h4.trans hb5; clear hb5
    cases T2 with
    | none =>
      rw [show rtV ((none : Option (Bool × ByteArray)).map (·.2)) = .tuple #[.string ⟨#[]⟩, .bool false] from rfl]
      have HU := Lib.hid (show U = none by rw [Hu.out]; rfl)
      clear Hu
      go_wp2_with fail
      go_ret2
      exact ⟨by rw [HU.out]; rfl, h5⟩
    | some y =>
      obtain ⟨y1, y2⟩ := y
      rw [show rtV ((some (y1, y2)).map (·.2)) = .tuple #[.string y2, .bool true] from rfl]
      have HU := Lib.hid (show U = none by rw [Hu.out]; rfl)
      clear Hu
      go_wp2_with fail
      go_ret2
      exact ⟨by rw [HU.out]; rfl, h5⟩
  | some x =>
    obtain ⟨x1, x2⟩ := x
    rw [show rtV ((some (x1, x2)).map (·.2)) = .tuple #[.string x2, .bool true] from rfl]
    go_wp2_with fail
    refine (HT2.out _ h4).mono ?_; rintro e w5 ⟨rfl, hb5⟩
    have h5 := h4.trans hb5; clear hb5
    cases T2 with
    | none =>
      rw [show rtV ((none : Option (Bool × ByteArray)).map (·.2)) = .tuple #[.string ⟨#[]⟩, .bool false] from rfl]
      have HU := Lib.hid (show U = none by rw [Hu.out]; rfl)
      clear Hu
      go_wp2_with fail
      go_ret2
      exact ⟨by rw [HU.out]; rfl, h5⟩
    | some y =>
      obtain ⟨y1, y2⟩ := y
      rw [show rtV ((some (y1, y2)).map (·.2)) = .tuple #[.string y2, .bool true] from rfl]
      cases hq : (x2.toList == y2.toList)
      · skip
        rw [show tgEq (some (x1, x2)) (some (y1, y2)) = false from hq] at Hu
        have HU := Lib.hid (show U = none by rw [Hu.out]; rfl)
        clear Hu
        go_wp2_with fail
        go_ret2
        exact ⟨by rw [HU.out]; rfl, h5⟩
      · skip
        rw [show tgEq (some (x1, x2)) (some (y1, y2)) = true from hq] at Hu
        have HU := Lib.hid (show U = some ((st.filter fun x => !hasF (RR 3) x.1) ++ RR 3) by rw [Hu.out]; rfl)
        clear Hu Hlen HTx HT1 HT2 HA1 HA2
        go_wp2_with fail
        refine (HS.out _ h5).mono ?_; rintro e w21 ⟨A3, n3, c3, rfl, hr3, hc3, hb21⟩
        have hl3 : RdS (w21.alloc (.cells #[.string ⟨#[99, 111, 110, 116, 101, 110, 116, 45, 108, 101, 110, 103, 116, 104]⟩, .string ⟨#[99, 111, 110, 116, 101, 110, 116, 45, 101, 110, 99, 111, 100, 105, 110, 103]⟩, .string ⟨#[99, 111, 110, 116, 101, 110, 116, 45, 114, 97, 110, 103, 101]⟩] 9)) (some ⟨w21.heap.size, 0, none⟩) 3 threeN := Rd.lit w21 #[.string ⟨#[99, 111, 110, 116, 101, 110, 116, 45, 108, 101, 110, 103, 116, 104]⟩, .string ⟨#[99, 111, 110, 116, 101, 110, 116, 45, 101, 110, 99, 111, 100, 105, 110, 103]⟩, .string ⟨#[99, 111, 110, 116, 101, 110, 116, 45, 114, 97, 110, 103, 101]⟩] 9 rfl 1 3 rfl
        have HL3 := Lib.hid hl3; clear hl3
        have HE1 := Lib.hid ((h5.trans hb21).alloc (.cells #[.string ⟨#[99, 111, 110, 116, 101, 110, 116, 45, 108, 101, 110, 103, 116, 104]⟩, .string ⟨#[99, 111, 110, 116, 101, 110, 116, 45, 101, 110, 99, 111, 100, 105, 110, 103]⟩, .string ⟨#[99, 111, 110, 116, 101, 110, 116, 45, 114, 97, 110, 103, 101]⟩] 9))
        have HR1 := Lib.hid (hr3.ext ((Ext.refl w21).alloc (.cells #[.string ⟨#[99, 111, 110, 116, 101, 110, 116, 45, 108, 101, 110, 103, 116, 104]⟩, .string ⟨#[99, 111, 110, 116, 101, 110, 116, 45, 101, 110, 99, 111, 100, 105, 110, 103]⟩, .string ⟨#[99, 111, 110, 116, 101, 110, 116, 45, 114, 97, 110, 103, 101]⟩] 9)))
        clear hb21 hr3
        go_wp2_with fail
        generalize w21.alloc (.cells #[.string ⟨#[99, 111, 110, 116, 101, 110, 116, 45, 108, 101, 110, 103, 116, 104]⟩, .string ⟨#[99, 111, 110, 116, 101, 110, 116, 45, 101, 110, 99, 111, 100, 105, 110, 103]⟩, .string ⟨#[99, 111, 110, 116, 101, 110, 116, 45, 114, 97, 110, 103, 101]⟩] 9) = w22 at *
        generalize w21.heap.size = b2 at *
        go_loopw [1, 60] (fun v i wr => ∃ k A' n' c', k ≤ 3 ∧ i = .int .i64 (k : Nat) ∧ v = .slice A' n' c' ∧ RdF wr A' n' (RR k) ∧ n' ≤ c' ∧ Ext w22 wr) (fun _ i _ => 3 - (intOf i).toNat)
        case atStart => exact ⟨0, A3, n3, c3, Nat.zero_le _, rfl, rfl, by rw [Hr0.out]; exact HR1.out, hc3, Ext.refl _⟩
        case round =>
          obtain ⟨k, A', n', c', hk, rfl, rfl, hrk, hck, hbr⟩ := hrel
          have Hnk := Lib.hid (show n' ≤ 2000 by rw [← hrk.lenF]; exact HNz.out k)
          by_cases hlt : k < 3
          · have hlt' : k < threeN.length := hlt
            obtain ⟨b, o, hbo, hc0⟩ := (HL3.out.ext hbr).atS hlt'
            injection hbo with hbo
            injection hbo with e1 e2
            subst e1; subst e2
            rw [Nat.zero_add] at hc0
            have Hst := Lib.hid (Hr1.out k hlt')
            have HRm := Lib.hid (ref_Remove A' n' c' (RR k) threeN[k] wr hrk (by have := Hnk.out; omega) (by have := three_sz k hlt'; omega) ((HBz.out k).mono (by decide)))
            generalize threeN[k] = x at *
            go_wp2_with fail
            refine HRm.out.mono ?_; rintro e w3 ⟨A4, n4, c4, rfl, hr4, hc4, hb4, hown4⟩
            clear hown4
            go_wp2_with fail
            go_roundw
            case rel => exact ⟨k + 1, A4, n4, c4, by omega, by go_num, rfl, by rw [Hst.out]; exact hr4, hc4, hbr.trans hb4⟩
            case measure => simp [intOf]; omega
          · obtain rfl : k = 3 := by omega
            clear hlt hk
            have h4 := HE1.out.trans hbr
            have HN := Lib.hid (⟨hrk, hck⟩ : _ ∧ _)
            have HB3 := Lib.hid (HBz.out 3)
            clear hrk hck HE1 HL3 HR1 hbr HBz HNz Hr0 Hr1 HS
            generalize RR 3 = N3 at *
            generalize wr = W4 at *
            go_wp2_with fail
            go_loopw [14, 70] (fun v i wi => ∃ j m A5 c5, j ≤ ns ∧ i = .int .i64 (j : Nat) ∧ v = .slice A5 m c5 ∧ wi.ownsRow W4.heap.size 44 2 (.slice A5 m c5) m (fldCells ((st.take j).filter fun x => !hasF N3 x.1)) ∧ m ≤ c5 ∧ m ≤ j ∧ Ext W4 wi) (fun _ i _ => ns - (intOf i).toNat)
            case atStart => exact ⟨0, 0, none, 0, Nat.zero_le _, rfl, rfl, World.ownsRow_nil _ _ _ _, Nat.le_refl _, Nat.le_refl _, Ext.refl _⟩
            case round =>
              obtain ⟨j, m, A5, c5, hj, rfl, rfl, hown, hmc, hmj, hbi⟩ := hrel
              by_cases hjt : j < ns
              · have hjt' : j < st.length := by have := Hls.out; omega
                obtain ⟨b, o, rfl, hc0, hc1⟩ := (HFs.out.ext (h4.trans hbi)).atF hjt'
                have hbd := (HSz.out.at_ hjt').1
                have Hk := Lib.hid (keep_step (nw := N3) hjt')
                have Hd := Lib.hid (drop_step (nw := N3) hjt')
                have HHas := Lib.hid (fun w5 (h5 : Ext W4 w5) => ref_All A' n' c' N3 st[j].1 w5 (HN.out.1.ext h5) (by have := Hnk.out; omega) (by omega) (fun f hf => Nat.le_trans (HB3.out f hf).1 (by decide)))
                have Hlq := Lib.hid (len_all' HN.out.1 st[j].1)
                have Hhq := Lib.hid (show hasF N3 st[j].1 = decide (0 < (allS N3 st[j].1).length) from rfl)
                generalize hx : st[j] = x at *
                obtain ⟨nm, vl⟩ := x
                clear hx
                simp only at hbd hc0 hc1 Hk Hd HHas Hlq Hhq
                generalize hasF N3 nm = q at *
                generalize allS N3 nm = LQ at *
                go_wp2_with fail
                refine (HHas.out _ (hbi.alloc _)).mono ?_; rintro e w6 ⟨A6, n6, c6, rfl, hr6, hc6, hb6⟩
                have hbi6 := (hbi.alloc (.cells #[.string nm, .string vl] 44)).trans hb6
                have hown6 := own_ext (hown.alloc (.cells #[.string nm, .string vl] 44)) hb6
                have x0 := hb6.cell (show (wr.alloc (.cells #[.string nm, .string vl] 44)).cell? ⟨wr.heap.size, 0, none⟩ = some (.string nm) from (Blk.new wr 44 #[.string nm, .string vl]).cell 0)
                have x1 := hb6.cell (show (wr.alloc (.cells #[.string nm, .string vl] 44)).cell? ⟨wr.heap.size, 1, none⟩ = some (.string vl) from (Blk.new wr 44 #[.string nm, .string vl]).cell 1)
                have hl6 := hr6.lenS
                have hn6 : n6 ≤ 2000 := by have := Hlq.out; have := Hnk.out; omega
                clear hb6 hown hbi hr6 hc6
                rcases Nat.eq_zero_or_pos n6 with hp6 | hp6
                · obtain rfl : false = q := by rw [Hhq.out, decide_eq_false (by omega)]
                  have Hk2 := Lib.hid (Hk.out rfl)
                  subst hp6
                  clear Hk Hd Hhq Hlq hl6 hn6
                  go_wp2_with (first
                    | (at_builtin; refine wpList_app _ rfl (.tmp 80) (.tmp 82) 22 rfl W4 44 _ 2 32 Tryz.underlying22 infoRfd rfl (by decide) _ _ _ rfl (hown6.alloc _) _ 1 1 (fldCells [(nm, vl)]) rfl (Rd.two _ _ _ _ (by simp)) (fldCells_one _) (hbi6.alloc _) (by omega) (by decide) ?_; intro A7 c7 w7 hown7 hb7 hle7))
                  refine ⟨?_, ?measure⟩
                  refine ⟨_, _, _, _, _, _, _, _, _, _, _, _, _, _, _, _, _, ?rel, rfl⟩
                  case rel => exact ⟨j + 1, m + 1, A7, c7, by omega, by go_num, rfl, by rw [Hk2.out, fldCells_app]; exact hown7, hle7, by omega, hb7⟩
                  case measure => simp [intOf]; omega
                · obtain rfl : true = q := by rw [Hhq.out, decide_eq_true (by omega)]
                  have Hd2 := Lib.hid (Hd.out rfl)
                  have hz6 : ((n6 : Int) == 0) = false := by simp; omega
                  clear Hk Hd Hhq Hlq hl6
                  go_wp2_with fail
                  refine ⟨?_, ?measure⟩
                  refine ⟨_, _, _, _, _, _, _, _, _, _, _, _, _, _, _, _, _, ?rel, rfl⟩
                  case rel => exact ⟨j + 1, m, A5, c5, by omega, by go_num, rfl, by rw [Hd2.out]; exact hown6, hmc, by omega, hbi6⟩
                  case measure => simp [intOf]; omega
              · obtain rfl : j = ns := by omega
                have he : st.take j = st := List.take_of_length_le (by have := Hls.out; omega)
                rw [he] at hown
                clear he hjt
                have HN5 := Lib.hid (HN.out.1.ext hbi)
                have hnk := Hnk.out
                go_wp2_with (first
                  | (at_builtin; refine wpList_app _ rfl (.tmp 85) (.tmp 86) 22 rfl W4 44 _ 2 32 Tryz.underlying22 infoRfd rfl (by decide) _ _ _ rfl hown _ n' c' (fldCells N3) rfl HN5.out (fldCells_one _) hbi (by omega) (by decide) ?_; intro A7 c7 w7 hown7 hb7 hle7))
                go_ret2
                exact ⟨by rw [HU.out]; exact ⟨A7, m + n', c7, rfl, by rw [← fldCells_app] at hown7; exact Rd.of_own hown7, hle7⟩, h4.trans hb7⟩
end Go.Proofs.YtphgaommokgfcaaGreatDoor
