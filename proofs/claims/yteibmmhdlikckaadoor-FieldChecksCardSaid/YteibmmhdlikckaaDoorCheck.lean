
/- The walks of field.check, field.Check, quaysideref02.Check; FieldChecks returns true. -/
import Derived.Test.YteibmmhdlikckaaDoorNV
set_option linter.unusedSimpArgs false
set_option linter.unusedVariables false
namespace Go.Proofs.YteibmmhdlikckaaDoor
open Go.RowKit

/-- The number of what is wrong with a field. -/
def chk (f : Fd) : Nat :=
  if nameE f.1 ≠ 0 then nameE f.1 else if nameS f.1 ≠ f.1 then 8 else if valueE f.2 ≠ 0 then valueE f.2 else if valueS f.2 ≠ f.2 then 2 else 0
def chkL : List Fd → Nat
  | [] => 0
  | f :: r => if chk f ≠ 0 then chk f else chkL r
/-- Of a list of fields: of the first that is wrong; 64 are too many. -/
def chkS (fs : List Fd) : Nat := if fs.length > 64 then 5 else chkL fs
theorem chk_lt (f : Fd) : chk f < 9 := by
  unfold chk
  have := nameE_lt f.1; have := valueE_lt f.2
  split
  · omega
  · split
    · omega
    · split
      · omega
      · split <;> omega
theorem chkL_lt : ∀ l : List Fd, chkL l < 9
  | [] => by decide
  | f :: r => by
    unfold chkL
    split
    · exact chk_lt f
    · exact chkL_lt r
theorem chkS_lt (l : List Fd) : chkS l < 9 := by
  unfold chkS
  split
  · omega
  · exact chkL_lt l
theorem chkL_app : ∀ (l r : List Fd), chkL l = 0 → chkL (l ++ r) = chkL r
  | [], r, _ => rfl
  | f :: l, r, h => by
    unfold chkL at h
    split at h
    · exact absurd h (by assumption)
    · rename_i hf
      rw [List.cons_append, chkL, if_neg hf]; exact chkL_app l r h
theorem chk_step {fs : List Fd} {k : Nat} (h : k < fs.length) (h1 : chkL (fs.take k) = 0) (h2 : chk fs[k] = 0) : chkL (fs.take (k + 1)) = 0 := by
  rw [take_step fs k h, chkL_app _ _ h1]; simp [chkL, h2]
theorem chk_yes {fs : List Fd} {k : Nat} (h : k < fs.length) (hl : fs.length ≤ 64) (h1 : chkL (fs.take k) = 0) (h2 : chk fs[k] ≠ 0) : chk fs[k] = chkS fs := by
  have e : fs = fs.take k ++ fs[k] :: fs.drop (k + 1) := by simp
  unfold chkS
  rw [if_neg (by omega)]
  conv => rhs; rw [e]
  rw [chkL_app _ _ h1, chkL, if_pos h2]
theorem chk_end {fs : List Fd} (hl : fs.length ≤ 64) (h1 : chkL (fs.take fs.length) = 0) : 0 = chkS fs := by
  rw [List.take_of_length_le (Nat.le_refl _)] at h1
  unfold chkS
  rw [if_neg (by omega), h1]
theorem chk_many {fs : List Fd} (hl : 64 < fs.length) : 5 = chkS fs := by unfold chkS; rw [if_pos hl]
theorem errV_pos {n : Nat} (h : n ≠ 0) : errV n = .iface 47 (.int .i64 n) := by unfold errV; rw [if_neg h]
theorem neqS_no {a b : ByteArray} (h : a = b) : (a.toList == b.toList) = true := eqS_iff.2 h
theorem neqS_yes {a b : ByteArray} (h : a ≠ b) : (a.toList == b.toList) = false := by
  rw [← Bool.not_eq_true, eqS_iff]; exact h

set_option maxHeartbeats 1000000 in
theorem field_check (a b : ByteArray) (w : World) (ha : a.size ≤ 4611686018427387904) (hbs : b.size ≤ 4611686018427387904) :
    Calls Tryd.prog 30 #[.agg #[.string a, .string b]] w fun e w' => e = .returned (errV (chk (a, b))) ∧ Ext w w' := by
  have hcA : (w.alloc (.cells #[.string a, .string b] 45)).cell? ⟨w.heap.size, 0, none⟩ = some (.string a) := by rw [World.cell?_alloc_mark]; rfl
  have hcB : (w.alloc (.cells #[.string a, .string b] 45)).cell? ⟨w.heap.size, 1, none⟩ = some (.string b) := by rw [World.cell?_alloc_mark]; rfl
  have hb0 : Ext w (w.alloc (.cells #[.string a, .string b] 45)) := (Ext.refl w).alloc _
  go_enter Tryd.func30, Tryd.ntmps30
  go_wp2_with fail
  generalize w.alloc (.cells #[.string a, .string b] 45) = w0 at *
  generalize w.heap.size = BB at *
  refine (field_Name a _ ha).mono ?_; rintro e w1 ⟨rfl, hb1⟩
  have hcA1 := hb1.cell hcA; have hcB1 := hb1.cell hcB
  have hbe1 := hb0.trans hb1
  by_cases hn : nameE a = 0
  · have Hn := Lib.hid hn
    rw [hn, show errV 0 = .nilIface from rfl]
    by_cases hns : nameS a = a
    · have Hns := Lib.hid hns
      have hq := neqS_no hns
      go_wp2_with fail
      refine (field_Value b _ hbs).mono ?_; rintro e w2 ⟨rfl, hb2⟩
      have hcB2 := hb2.cell hcB1
      by_cases hv : valueE b = 0
      · have Hv := Lib.hid hv
        rw [hv, show errV 0 = .nilIface from rfl]
        by_cases hvs : valueS b = b
        · have Hvs := Lib.hid hvs
          have hq2 := neqS_no hvs
          go_wp2_with fail
          go_ret
          refine ⟨congrArg Ending.returned ?_, hbe1.trans hb2⟩
          unfold chk; rw [if_neg (by simp [Hn.out]), if_neg (by simp [Hns.out]), if_neg (by simp [Hv.out]), if_neg (by simp [Hvs.out])]; rfl
        · have Hvs := Lib.hid hvs
          have hq2 := neqS_yes hvs
          go_wp2_with fail
          go_ret
          refine ⟨congrArg Ending.returned ?_, hbe1.trans hb2⟩
          unfold chk; rw [if_neg (by simp [Hn.out]), if_neg (by simp [Hns.out]), if_neg (by simp [Hv.out]), if_pos Hvs.out]; rfl
      · have Hv := Lib.hid hv
        rw [errV_pos hv]
        go_wp2_with fail
        go_ret
        refine ⟨congrArg Ending.returned ?_, hbe1.trans hb2⟩
        unfold chk; rw [if_neg (by simp [Hn.out]), if_neg (by simp [Hns.out]), if_pos Hv.out, errV_pos Hv.out]; rfl
    · have Hns := Lib.hid hns
      have hq := neqS_yes hns
      go_wp2_with fail
      go_ret
      refine ⟨congrArg Ending.returned ?_, hbe1⟩
      unfold chk; rw [if_neg (by simp [Hn.out]), if_pos Hns.out]; rfl
  · have Hn := Lib.hid hn
    rw [errV_pos hn]
    go_wp2_with fail
    go_ret
    refine ⟨congrArg Ending.returned ?_, hbe1⟩
    unfold chk; rw [if_pos Hn.out, errV_pos Hn.out]; rfl

set_option maxHeartbeats 1000000 in
theorem field_Check (A : Option Addr) (n c : Nat) (fs : List Fd) (w : World) (hf : RdF w A n fs) (hn : n ≤ 9223372036854775807) (hsz : Bsz 4611686018427387904 fs) :
    Calls Tryd.prog 13 #[.slice A n c] w fun e w' => e = .returned (errV (chkS fs)) ∧ Ext w w' := by
  have hl := hf.lenF
  go_enter Tryd.func13, Tryd.ntmps13
  have Hl := Lib.hid hl; clear hl
  by_cases h64 : n > 64
  · have Hm := Lib.hid (chk_many (fs := fs) (by have := Hl.out; omega))
    go_wp2_with fail
    go_ret
    exact ⟨by rw [← Hm.out]; rfl, Ext.refl _⟩
  · go_wp2_with fail
    have H64 := Lib.hid (show fs.length ≤ 64 by have := Hl.out; omega)
    go_loopw [12] (fun i wr => ∃ k, k ≤ n ∧ i = .int .i64 (k : Nat) ∧ chkL (fs.take k) = 0 ∧ Ext w wr) (fun i _ => n - (intOf i).toNat)
    case atStart => exact ⟨0, Nat.zero_le _, rfl, rfl, Ext.refl _⟩
    case round =>
      obtain ⟨k, hk, rfl, hall, hbr⟩ := hrel
      by_cases hlt : k < n
      · have hlt' : k < fs.length := by have := Hl.out; omega
        obtain ⟨b, o, rfl, hc0, hc1⟩ := (hf.ext hbr).atF hlt'
        have Hst := Lib.hid (chk_step hlt' hall)
        have Hy := Lib.hid (chk_yes hlt' H64.out hall); clear hall
        obtain ⟨hz1, hz2⟩ := hsz.at_ hlt'
        have Hc := Lib.hid (fun w => field_check fs[k].1 fs[k].2 w hz1 hz2)
        go_wp2_with fail
        refine (Hc.out _).mono ?_; rintro e w2 ⟨rfl, hb2⟩
        have hb2 := hbr.trans (((Ext.refl wr).alloc _).trans hb2)
        by_cases hz : chk fs[k] = 0
        · have Hz := Lib.hid hz
          rw [show chk (fs[k].1, fs[k].2) = 0 from hz, show errV 0 = .nilIface from rfl]
          clear hz
          go_wp2_with fail
          go_roundw
          case rel => exact ⟨k + 1, by omega, by go_num, Hst.out Hz.out, hb2⟩
          case measure => simp [intOf]; omega
        · have Hz := Lib.hid hz
          rw [show errV (chk (fs[k].1, fs[k].2)) = _ from errV_pos hz]
          clear hz
          go_wp2_with fail
          go_ret
          exact ⟨congrArg Ending.returned (by rw [← Hy.out Hz.out, errV_pos Hz.out]; rfl), hb2⟩
      · obtain rfl : k = n := by omega
        have He := Lib.hid (chk_end H64.out (by rw [Hl.out]; exact hall)); clear hall
        go_wp2_with fail
        go_ret
        exact ⟨congrArg Ending.returned (by rw [← He.out]; rfl), hbr⟩

set_option maxHeartbeats 1000000 in
theorem ref_Check (A : Option Addr) (n c : Nat) (fs : List Fd) (w : World) (hf : RdF w A n fs) (hn : n ≤ 9223372036854775807) (hsz : Bsz 4611686018427387904 fs) :
    Calls Tryd.prog 15 #[.slice A n c] w fun e w' => e = .returned (.int .i64 (chkS fs : Nat)) ∧ Ext w w' := by
  have hl := hf.lenF
  go_enter Tryd.func15, Tryd.ntmps15
  have Hl := Lib.hid hl; clear hl
  by_cases h64 : n > 64
  · have Hm := Lib.hid (chk_many (fs := fs) (by have := Hl.out; omega))
    go_wp2_with fail
    go_ret
    exact ⟨by rw [← Hm.out]; rfl, Ext.refl _⟩
  · go_wp2_with fail
    have H64 := Lib.hid (show fs.length ≤ 64 by have := Hl.out; omega)
    go_loopw [12] (fun i wr => ∃ k, k ≤ n ∧ i = .int .i64 (k : Nat) ∧ chkL (fs.take k) = 0 ∧ Ext w wr) (fun i _ => n - (intOf i).toNat)
    case atStart => exact ⟨0, Nat.zero_le _, rfl, rfl, Ext.refl _⟩
    case round =>
      obtain ⟨k, hk, rfl, hall, hbr⟩ := hrel
      by_cases hlt : k < n
      · have hlt' : k < fs.length := by have := Hl.out; omega
        obtain ⟨b, o, rfl, hc0, hc1⟩ := (hf.ext hbr).atF hlt'
        have Hst := Lib.hid (chk_step hlt' hall)
        have Hy := Lib.hid (chk_yes hlt' H64.out hall); clear hall
        obtain ⟨hz1, hz2⟩ := hsz.at_ hlt'
        generalize hfk : fs[k] = fk at *
        obtain ⟨a, v⟩ := fk
        dsimp only at hc0 hc1 hz1 hz2
        go_wp2_with fail
        refine (ref_Name a _ hz1).mono ?_; rintro e w1 ⟨rfl, hb1⟩
        have hc01 := hb1.cell hc0; have hc11 := hb1.cell hc1
        have hbe1 := hbr.trans hb1
        have hnl := nameE_lt a
        by_cases hn0 : nameE a = 0
        · have Hn := Lib.hid hn0
          rw [hn0]
          by_cases hns : nameS a = a
          · have Hns := Lib.hid hns
            have hq := neqS_no hns
            go_wp2_with fail
            refine (ref_Value v _ hz2).mono ?_; rintro e w2 ⟨rfl, hb2⟩
            have hc12 := hb2.cell hc11
            have hvl := valueE_lt v
            have hbe2 := hbe1.trans hb2
            by_cases hv : valueE v = 0
            · have Hv := Lib.hid hv
              rw [hv]
              by_cases hvs : valueS v = v
              · have Hvs := Lib.hid hvs
                have hq2 := neqS_no hvs
                go_wp2_with fail
                go_roundw
                case rel => exact ⟨k + 1, by omega, by go_num, Hst.out (by unfold chk; rw [if_neg (by simp [Hn.out]), if_neg (by simp [Hns.out]), if_neg (by simp [Hv.out]), if_neg (by simp [Hvs.out])]), hbe2⟩
                case measure => simp [intOf]; omega
              · have Hvs := Lib.hid hvs
                have hq2 := neqS_yes hvs
                go_wp2_with fail
                go_ret
                have hk2 : chk (a, v) = 2 := by unfold chk; rw [if_neg (by simp [Hn.out]), if_neg (by simp [Hns.out]), if_neg (by simp [Hv.out]), if_pos Hvs.out]
                exact ⟨congrArg Ending.returned (by rw [← Hy.out (by rw [hk2]; decide), hk2]; rfl), hbe2⟩
            · have Hv := Lib.hid hv
              have hv' : ¬ ((valueE v : Nat) : Int) = 0 := by omega
              go_wp2_with fail
              go_ret
              have hk2 : chk (a, v) = valueE v := by unfold chk; rw [if_neg (by simp [Hn.out]), if_neg (by simp [Hns.out]), if_pos Hv.out]
              exact ⟨congrArg Ending.returned (by rw [← Hy.out (by rw [hk2]; exact Hv.out), hk2]; rfl), hbe2⟩
          · have Hns := Lib.hid hns
            have hq := neqS_yes hns
            go_wp2_with fail
            go_ret
            have hk2 : chk (a, v) = 8 := by unfold chk; rw [if_neg (by simp [Hn.out]), if_pos Hns.out]
            exact ⟨congrArg Ending.returned (by rw [← Hy.out (by rw [hk2]; decide), hk2]; rfl), hbe1⟩
        · have Hn := Lib.hid hn0
          have hn0' : ¬ ((nameE a : Nat) : Int) = 0 := by omega
          go_wp2_with fail
          go_ret
          have hk2 : chk (a, v) = nameE a := by unfold chk; rw [if_pos Hn.out]
          exact ⟨congrArg Ending.returned (by rw [← Hy.out (by rw [hk2]; exact Hn.out), hk2]; rfl), hbe1⟩
      · obtain rfl : k = n := by omega
        have He := Lib.hid (chk_end H64.out (by rw [Hl.out]; exact hall)); clear hall
        go_wp2_with fail
        go_ret
        exact ⟨congrArg Ending.returned (by rw [← He.out]; rfl), hbr⟩

set_option maxHeartbeats 1000000 in
theorem law_FieldChecks (A : Option Addr) (n c : Nat) (fs : List Fd) (w : World) (hf : RdF w A n fs)
    (hn : n ≤ 9223372036854775807) (B : Nat) (hB : B ≤ 140737488355328) (hsz : Bsz B fs) :
    Calls Tryd.prog 4 #[.slice A n c] w fun e w' => e = .returned (.bool true) ∧ Ext w w' := by
  have hl := hf.lenF
  go_enter Tryd.func4, Tryd.ntmps4
  go_wp2_with fail
  have Hl := Lib.hid hl; clear hl
  refine (law_awake _).mono ?_; rintro e w1 ⟨rfl, hb1⟩
  go_wp2_with fail
  have hf1 := hf.ext hb1
  refine (law_small _ _ _ _ _ hf1 hn B hB hsz).mono ?_; rintro e w2 ⟨rfl, hb2⟩
  have hf2 := hf1.ext hb2
  cases hsm : smallS fs
  · clear hsm
    go_wp2_with fail
    refine (law_awake _).mono ?_; rintro e w3 ⟨rfl, hb3⟩
    go_wp2_with fail
    go_ret
    exact ⟨rfl, (hb1.trans hb2).trans hb3⟩
  · obtain ⟨hs1, hs2⟩ := gets_small hsm
    have hn70 : n ≤ 70 := by have := Hl.out; omega
    clear hsm
    go_wp2_with fail
    refine (law_Fields _ _ _ _ _ hf2 (by omega)).mono ?_; rintro e w3 ⟨A3, c3, rfl, hf3, hc3, hb3, -⟩
    go_wp2_with fail
    have hz : Bsz 4611686018427387904 fs := hsz.mono (by omega)
    refine (field_Check _ _ _ _ _ hf3 (by omega) hz).mono ?_; rintro e w4 ⟨rfl, hb4⟩
    have hcl := chkS_lt fs
    generalize hE : errV (chkS fs) = E
    go_wp2_with fail
    subst hE
    refine (base_Num _ (by omega) _).mono ?_; rintro e w5 ⟨rfl, hb5⟩
    go_wp2_with fail
    refine (ref_Check _ _ _ _ _ (((hf2.ext hb3).ext hb4).ext hb5) (by omega) hz).mono ?_; rintro e w6 ⟨rfl, hb6⟩
    go_wp2_with fail
    go_ret
    exact ⟨rfl, ((((hb1.trans hb2).trans hb3).trans hb4).trans hb5).trans hb6⟩
end Go.Proofs.YteibmmhdlikckaaDoor
