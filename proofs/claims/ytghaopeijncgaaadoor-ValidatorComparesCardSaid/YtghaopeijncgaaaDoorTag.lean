
/- The walks of validator.plain, quaysideref10.Right, ReadTag, Read. -/
import Derived.Test.YtghaopeijncgaaaDoorErr
namespace Go.Proofs.YtghaopeijncgaaaDoor
open Go.RowKit

theorem any_step (p : UInt8 → Bool) {s : ByteArray} {k : Nat} (h : k < s.size) (h1 : (s.data.toList.take k).any p = false) (h2 : p s[k] = false) : (s.data.toList.take (k + 1)).any p = false := by
  rw [take_step _ k (by simpa using h), List.any_append, h1]
  have h2 : p s.data[k] = false := h2
  simpa using h2
theorem any_yes (p : UInt8 → Bool) {s : ByteArray} {k : Nat} (h : k < s.size) (h2 : p s[k] = true) : true = s.data.toList.any p := by
  have h2 : p s.data[k] = true := h2
  symm
  rw [List.any_eq_true]
  exact ⟨s.data[k], by simp, h2⟩
theorem any_end (p : UInt8 → Bool) {s : ByteArray} (h1 : (s.data.toList.take s.size).any p = false) : false = s.data.toList.any p := by
  rw [List.take_of_length_le (by simp)] at h1
  exact h1.symm
/-- May a sign not be in a tag? -/
def badT (c : UInt8) : Bool := decide ((c.toNat : Int) < 33) || ((c.toNat : Int) == 34) || ((c.toNat : Int) == 127)
theorem badT_yes {c : UInt8} (h : (c.toNat : Int) < 33 ∨ (c.toNat : Int) = 34 ∨ (c.toNat : Int) = 127) : badT c = true := by
  unfold badT; simp only [Bool.or_eq_true, decide_eq_true_eq, beq_iff_eq]; omega
theorem badT_no {c : UInt8} (h : ¬ ((c.toNat : Int) < 33 ∨ (c.toNat : Int) = 34 ∨ (c.toNat : Int) = 127)) : badT c = false := by
  rw [Bool.eq_false_iff]; unfold badT; simp only [ne_eq, Bool.or_eq_true, decide_eq_true_eq, beq_iff_eq]; omega
/-- May a string be the text of a tag? -/
def rightS (s : ByteArray) : Bool := !s.data.toList.any badT
def wkP (s : ByteArray) : Bool := Lib.hasPrefix s.data.toList [87, 47]
def wkR (s : ByteArray) : ByteArray := ⟨(Lib.trimPrefix s.data.toList [87, 47]).toArray⟩
/-- The text between quotes, if it is that of a tag. -/
def txtS (r : ByteArray) : Option ByteArray :=
  if h : r.size < 2 then none else if (r[0]'(by omega)) = 34 ∧ (r[r.size - 1]'(by omega)) = 34 ∧ rightS (r.extract 1 (r.size - 1)) = true then some (r.extract 1 (r.size - 1)) else none
theorem txt_short {r : ByteArray} (h : r.size < 2) : txtS r = none := by unfold txtS; rw [dif_pos h]
theorem txt_at {r : ByteArray} (h : ¬ r.size < 2) : txtS r = if (r[0]'(by omega)) = 34 ∧ (r[r.size - 1]'(by omega)) = 34 ∧ rightS (r.extract 1 (r.size - 1)) = true then some (r.extract 1 (r.size - 1)) else none := by unfold txtS; rw [dif_neg h]
theorem i34 {c : UInt8} (h : ¬ (c.toNat : Int) = 34) : ¬ c = 34 := fun e => h (by rw [e]; rfl)
theorem txt_no0 {r : ByteArray} (h : ¬ r.size < 2) (h0 : ¬ ((r[0]'(by omega)).toNat : Int) = 34) : txtS r = none := by rw [txt_at h, if_neg (fun e => i34 h0 e.1)]
theorem txt_no1 {r : ByteArray} (h : ¬ r.size < 2) (h0 : ¬ ((r[r.size - 1]'(by omega)).toNat : Int) = 34) : txtS r = none := by rw [txt_at h, if_neg (fun e => i34 h0 e.2.1)]
theorem txt_no2 {r : ByteArray} (h : ¬ r.size < 2) (h0 : rightS (r.extract 1 (r.size - 1)) = false) : txtS r = none := by rw [txt_at h, if_neg (fun e => by rw [h0] at e; exact absurd e.2.2 (by simp))]
theorem u8of {c : UInt8} (h : (c.toNat : Int) = 34) : c = 34 := UInt8.toNat_inj.1 (by show c.toNat = 34; omega)
theorem txt_yes {r : ByteArray} (h : ¬ r.size < 2) (h0 : ((r[0]'(by omega)).toNat : Int) = 34) (h1 : ((r[r.size - 1]'(by omega)).toNat : Int) = 34) (h2 : rightS (r.extract 1 (r.size - 1)) = true) : txtS r = some (r.extract 1 (r.size - 1)) := by
  rw [txt_at h, if_pos ⟨u8of h0, u8of h1, h2⟩]
/-- The tag of a text. -/
def tagS (s : ByteArray) : Option (Bool × ByteArray) := (txtS (wkR s)).map fun t => (wkP s, t)
theorem tag_none {s : ByteArray} (h : txtS (wkR s) = none) : tagS s = none := by unfold tagS; rw [h]; rfl
theorem tag_some {s t : ByteArray} (h : txtS (wkR s) = some t) : tagS s = some (wkP s, t) := by unfold tagS; rw [h]; rfl
def tagV (o : Option (Bool × ByteArray)) : Value := match o with | some t => .agg #[.bool t.1, .string t.2] | none => .agg #[.bool false, .string ⟨#[]⟩]
def tagE (o : Option (Bool × ByteArray)) : Nat := if o.isSome then 0 else 2
theorem wkR_size (s : ByteArray) : (wkR s).size ≤ s.size := by
  show (Lib.trimPrefix s.data.toList [87, 47]).toArray.size ≤ s.data.size
  unfold Lib.trimPrefix
  split
  · simp
  · simp


set_option maxHeartbeats 1000000 in
theorem val_plain (s : ByteArray) (w : World) (hs : s.size ≤ 4611686018427387904) :
    Calls Tryd.prog 35 #[.string s] w fun e w' => e = .returned (.bool (rightS s)) ∧ w' = w := by
  go_enter Tryd.func35, Tryd.ntmps35
  go_wp2_with fail
  go_loop [6] (fun i => ∃ k, k ≤ s.size ∧ i = .int .i64 (k : Nat) ∧ (s.data.toList.take k).any badT = false) (fun i => s.size - (intOf i).toNat)
  case atStart => exact ⟨0, Nat.zero_le _, rfl, rfl⟩
  case round =>
    obtain ⟨k, hk, rfl, hall⟩ := hrel
    by_cases hlt : k < s.size
    · have Hst := Lib.hid (any_step badT hlt hall); clear hall
      have Hyes := Lib.hid (any_yes badT hlt)
      have Hcy := Lib.hid (@badT_yes s[k])
      have Hcn := Lib.hid (@badT_no s[k])
      go_wp2_with fail
      all_goals first
        | (have hc := Hcn.out (by (try simp only [beq_iff_eq, beq_eq_false_iff_ne, ne_eq] at *); omega)
           go_round
           case rel => exact ⟨k + 1, by omega, by go_num, Hst.out hc⟩
           case measure => simp [intOf]; omega)
        | (have hc := Hcy.out (by (try simp only [beq_iff_eq] at *); omega)
           go_ret; exact ⟨congrArg (fun x => Ending.returned (.bool x)) (by unfold rightS; rw [← Hyes.out hc]; rfl), rfl⟩)
    · obtain rfl : k = s.size := by omega
      have He := Lib.hid (any_end badT hall); clear hall
      go_wp2_with fail
      all_goals (go_ret; exact ⟨congrArg (fun x => Ending.returned (.bool x)) (by unfold rightS; rw [← He.out]; rfl), rfl⟩)


set_option maxHeartbeats 1000000 in
theorem ref_Right (s : ByteArray) (w : World) (hs : s.size ≤ 4611686018427387904) :
    Calls Tryd.prog 36 #[.string s] w fun e w' => e = .returned (.bool (rightS s)) ∧ w' = w := by
  go_enter Tryd.func36, Tryd.ntmps36
  go_wp2_with fail
  go_loop [6] (fun i => ∃ k, k ≤ s.size ∧ i = .int .i64 (k : Nat) ∧ (s.data.toList.take k).any badT = false) (fun i => s.size - (intOf i).toNat)
  case atStart => exact ⟨0, Nat.zero_le _, rfl, rfl⟩
  case round =>
    obtain ⟨k, hk, rfl, hall⟩ := hrel
    by_cases hlt : k < s.size
    · have Hst := Lib.hid (any_step badT hlt hall); clear hall
      have Hyes := Lib.hid (any_yes badT hlt)
      have Hcy := Lib.hid (@badT_yes s[k])
      have Hcn := Lib.hid (@badT_no s[k])
      go_wp2_with fail
      all_goals first
        | (have hc := Hcn.out (by (try simp only [beq_iff_eq, beq_eq_false_iff_ne, ne_eq] at *); omega)
           go_round
           case rel => exact ⟨k + 1, by omega, by go_num, Hst.out hc⟩
           case measure => simp [intOf]; omega)
        | (have hc := Hcy.out (by (try simp only [beq_iff_eq] at *); omega)
           go_ret; exact ⟨congrArg (fun x => Ending.returned (.bool x)) (by unfold rightS; rw [← Hyes.out hc]; rfl), rfl⟩)
    · obtain rfl : k = s.size := by omega
      have He := Lib.hid (any_end badT hall); clear hall
      go_wp2_with fail
      all_goals (go_ret; exact ⟨congrArg (fun x => Ending.returned (.bool x)) (by unfold rightS; rw [← He.out]; rfl), rfl⟩)


set_option maxHeartbeats 1000000 in
set_option maxRecDepth 100000 in
theorem val_ReadTag (s : ByteArray) (w : World) (hs : s.size ≤ 1048576) :
    Calls Tryd.prog 12 #[.string s] w fun e w' => e = .returned (.tuple #[tagV (tagS s), errV (tagE (tagS s))]) ∧ Ext w w' := by
  have hrs := wkR_size s
  obtain ⟨R, hR0⟩ : ∃ R, wkR s = R := ⟨_, rfl⟩
  rw [hR0] at hrs
  have hR := Lib.hid hR0; clear hR0
  by_cases h2 : R.size < 2
  · have HN := Lib.hid (tag_none (s := s) (by rw [hR.out]; exact txt_short h2))
    go_enter Tryd.func12, Tryd.ntmps12
    go_wp2_with fail
    refine (Tryd.strings_CutPrefix s ⟨#[87, 47]⟩ _).mono ?_; rintro e w0 ⟨rfl, rfl⟩
    rw [show (⟨(Lib.trimPrefix s.data.toList (⟨#[87, 47]⟩ : ByteArray).data.toList).toArray⟩ : ByteArray) = R from hR.out, show Lib.hasPrefix s.data.toList (⟨#[87, 47]⟩ : ByteArray).data.toList = wkP s from rfl]
    go_wp2_with fail
    (exact bodyPost_ret (v := .tuple #[.agg #[.bool false, .string ⟨#[]⟩], .iface 34 (.int .i64 2)]) (by simp [results, Tryd.results12, go_sem]) rfl ⟨by rw [HN.out]; rfl, ((Ext.refl w).alloc _).alloc _⟩)
  by_cases h0 : ((R[0]'(by omega)).toNat : Int) = 34
  case neg =>
    have HN := Lib.hid (tag_none (s := s) (by rw [hR.out]; exact txt_no0 h2 h0))
    have hq0 : (((R[0]'(by omega)).toNat : Int) != 34) = true := by simp [h0]
    go_enter Tryd.func12, Tryd.ntmps12
    go_wp2_with fail
    refine (Tryd.strings_CutPrefix s ⟨#[87, 47]⟩ _).mono ?_; rintro e w0 ⟨rfl, rfl⟩
    rw [show (⟨(Lib.trimPrefix s.data.toList (⟨#[87, 47]⟩ : ByteArray).data.toList).toArray⟩ : ByteArray) = R from hR.out, show Lib.hasPrefix s.data.toList (⟨#[87, 47]⟩ : ByteArray).data.toList = wkP s from rfl]
    go_wp2_with fail
    (exact bodyPost_ret (v := .tuple #[.agg #[.bool false, .string ⟨#[]⟩], .iface 34 (.int .i64 2)]) (by simp [results, Tryd.results12, go_sem]) rfl ⟨by rw [HN.out]; rfl, ((Ext.refl w).alloc _).alloc _⟩)
  have hq0 : (((R[0]'(by omega)).toNat : Int) != 34) = false := by simp [h0]
  by_cases h1 : ((R[R.size - 1]'(by omega)).toNat : Int) = 34
  case neg =>
    have HN := Lib.hid (tag_none (s := s) (by rw [hR.out]; exact txt_no1 h2 h1))
    have hq1 : (((R[R.size - 1]'(by omega)).toNat : Int) != 34) = true := by simp [h1]
    go_enter Tryd.func12, Tryd.ntmps12
    go_wp2_with fail
    refine (Tryd.strings_CutPrefix s ⟨#[87, 47]⟩ _).mono ?_; rintro e w0 ⟨rfl, rfl⟩
    rw [show (⟨(Lib.trimPrefix s.data.toList (⟨#[87, 47]⟩ : ByteArray).data.toList).toArray⟩ : ByteArray) = R from hR.out, show Lib.hasPrefix s.data.toList (⟨#[87, 47]⟩ : ByteArray).data.toList = wkP s from rfl]
    go_wp2_with fail
    (exact bodyPost_ret (v := .tuple #[.agg #[.bool false, .string ⟨#[]⟩], .iface 34 (.int .i64 2)]) (by simp [results, Tryd.results12, go_sem]) rfl ⟨by rw [HN.out]; rfl, ((Ext.refl w).alloc _).alloc _⟩)
  have hq1 : (((R[R.size - 1]'(by omega)).toNat : Int) != 34) = false := by simp [h1]
  cases hr : rightS (R.extract 1 (R.size - 1))
  · have HN := Lib.hid (tag_none (s := s) (by rw [hR.out]; exact txt_no2 h2 hr))
    go_enter Tryd.func12, Tryd.ntmps12
    go_wp2_with fail
    refine (Tryd.strings_CutPrefix s ⟨#[87, 47]⟩ _).mono ?_; rintro e w0 ⟨rfl, rfl⟩
    rw [show (⟨(Lib.trimPrefix s.data.toList (⟨#[87, 47]⟩ : ByteArray).data.toList).toArray⟩ : ByteArray) = R from hR.out, show Lib.hasPrefix s.data.toList (⟨#[87, 47]⟩ : ByteArray).data.toList = wkP s from rfl]
    go_wp2_with fail
    refine (val_plain _ _ (by rw [ByteArray.size_extract]; omega)).mono ?_; rintro e w1 ⟨rfl, rfl⟩
    rw [hr]
    go_wp2_with fail
    (exact bodyPost_ret (v := .tuple #[.agg #[.bool false, .string ⟨#[]⟩], .iface 34 (.int .i64 2)]) (by simp [results, Tryd.results12, go_sem]) rfl ⟨by rw [HN.out]; rfl, ((Ext.refl w).alloc _).alloc _⟩)
  · have HY := Lib.hid (tag_some (s := s) (by rw [hR.out]; exact txt_yes h2 h0 h1 hr))
    go_enter Tryd.func12, Tryd.ntmps12
    go_wp2_with fail
    refine (Tryd.strings_CutPrefix s ⟨#[87, 47]⟩ _).mono ?_; rintro e w0 ⟨rfl, rfl⟩
    rw [show (⟨(Lib.trimPrefix s.data.toList (⟨#[87, 47]⟩ : ByteArray).data.toList).toArray⟩ : ByteArray) = R from hR.out, show Lib.hasPrefix s.data.toList (⟨#[87, 47]⟩ : ByteArray).data.toList = wkP s from rfl]
    go_wp2_with fail
    refine (val_plain _ _ (by rw [ByteArray.size_extract]; omega)).mono ?_; rintro e w1 ⟨rfl, rfl⟩
    rw [hr]
    go_wp2_with fail
    (exact bodyPost_ret (v := .tuple #[.agg #[.bool (wkP s), .string (R.extract 1 (R.size - 1))], .nilIface]) (by simp [results, Tryd.results12, go_sem]) rfl ⟨by rw [HY.out]; rfl, ((Ext.refl w).alloc _).alloc _⟩)


theorem wk_no {s : ByteArray} (h : wkP s = false) : wkR s = s ∧ (s.size < 2 ∨ (2 ≤ s.size ∧ ((s.extract 0 2).toList == [87, 47]) = false)) := by
  have hp : wkR s = s := by
    unfold wkR Lib.trimPrefix
    unfold wkP at h
    rw [h]; exact bytes_ext (by simp)
  refine ⟨hp, ?_⟩
  rcases Nat.lt_or_ge s.size 2 with h2 | h2
  · exact .inl h2
  · refine .inr ⟨h2, ?_⟩
    rw [ByteArray.toList_eq, ext_take]
    unfold wkP Lib.hasPrefix at h
    obtain ⟨⟨l⟩⟩ := s
    match l, h2 with
    | a :: b :: r, _ =>
      simp only [List.isPrefixOf, List.take_succ_cons, List.take_zero, Bool.and_true] at h ⊢
      rw [Bool.eq_false_iff] at h ⊢
      intro e
      rw [beq_iff_eq] at e
      injection e with e1 e2
      injection e2 with e2 _
      apply h
      rw [e1, e2]; rfl
theorem wk_yes {s : ByteArray} (h : wkP s = true) : 2 ≤ s.size ∧ ((s.extract 0 2).toList == [87, 47]) = true ∧ wkR s = s.extract 2 s.size := by
  unfold wkP Lib.hasPrefix at h
  have h2 := List.isPrefixOf_iff_prefix.1 h
  obtain ⟨t, ht⟩ := h2
  have hl := congrArg List.length ht
  simp only [List.length_append, List.length_cons, List.length_nil, Array.length_toList] at hl
  have hs2 : 2 ≤ s.size := by show 2 ≤ s.data.size; omega
  refine ⟨hs2, ?_, ?_⟩
  · rw [ByteArray.toList_eq, ext_take, ← ht]; rfl
  · unfold wkR Lib.trimPrefix Lib.hasPrefix
    rw [h]
    exact bytes_ext (by rw [ext_drop]; simp)


set_option maxHeartbeats 1000000 in
set_option maxRecDepth 100000 in
theorem ref_Read (s : ByteArray) (w : World) (hs : s.size ≤ 1048576) :
    Calls Tryd.prog 13 #[.string s] w fun e w' => e = .returned (.tuple #[tagV (tagS s), .bool (tagS s).isSome]) ∧ Ext w w' := by
  have hrs := wkR_size s
  cases hw : wkP s
  · have hp := wk_no hw
    have hR := Lib.hid hp.1
    have Hw := Lib.hid hw; clear hw
    have hp2 := hp.2
    clear hp
    rcases hp2 with hp2 | ⟨hp3, hp2⟩
    · have h2 := hp2
      have HN := Lib.hid (tag_none (s := s) (by rw [hR.out]; exact txt_short h2))
      clear hp2
      go_enter Tryd.func13, Tryd.ntmps13
      go_wp2_with fail
      (exact bodyPost_ret (v := .tuple #[.agg #[.bool false, .string ⟨#[]⟩], .bool false]) (by simp [results, Tryd.results13, go_sem]) rfl ⟨by rw [HN.out]; rfl, ((Ext.refl w).alloc _).alloc _⟩)
    · skip
      have h2 : ¬ s.size < 2 := by omega
      by_cases h0 : ((s[0]'(by omega)).toNat : Int) = 34
      case neg =>
        have HN := Lib.hid (tag_none (s := s) (by rw [hR.out]; exact txt_no0 h2 h0))
        have hq0 : (((s[0]'(by omega)).toNat : Int) != 34) = true := by simp [h0]
        go_enter Tryd.func13, Tryd.ntmps13
        go_wp2_with fail
        (exact bodyPost_ret (v := .tuple #[.agg #[.bool false, .string ⟨#[]⟩], .bool false]) (by simp [results, Tryd.results13, go_sem]) rfl ⟨by rw [HN.out]; rfl, ((Ext.refl w).alloc _).alloc _⟩)
      have hq0 : (((s[0]'(by omega)).toNat : Int) != 34) = false := by simp [h0]
      by_cases h1 : ((s[s.size - 1]'(by omega)).toNat : Int) = 34
      case neg =>
        have HN := Lib.hid (tag_none (s := s) (by rw [hR.out]; exact txt_no1 h2 h1))
        have hq1 : (((s[s.size - 1]'(by omega)).toNat : Int) != 34) = true := by simp [h1]
        go_enter Tryd.func13, Tryd.ntmps13
        go_wp2_with fail
        (exact bodyPost_ret (v := .tuple #[.agg #[.bool false, .string ⟨#[]⟩], .bool false]) (by simp [results, Tryd.results13, go_sem]) rfl ⟨by rw [HN.out]; rfl, ((Ext.refl w).alloc _).alloc _⟩)
      have hq1 : (((s[s.size - 1]'(by omega)).toNat : Int) != 34) = false := by simp [h1]
      cases hr : rightS (s.extract 1 (s.size - 1))
      · have HN := Lib.hid (tag_none (s := s) (by rw [hR.out]; exact txt_no2 h2 hr))
        go_enter Tryd.func13, Tryd.ntmps13
        go_wp2_with fail
        refine (ref_Right _ _ (by rw [ByteArray.size_extract]; omega)).mono ?_; rintro e w1 ⟨rfl, rfl⟩
        rw [hr]
        go_wp2_with fail
        (exact bodyPost_ret (v := .tuple #[.agg #[.bool false, .string ⟨#[]⟩], .bool false]) (by simp [results, Tryd.results13, go_sem]) rfl ⟨by rw [HN.out]; rfl, ((Ext.refl w).alloc _).alloc _⟩)
      · have HY := Lib.hid (tag_some (s := s) (by rw [hR.out]; exact txt_yes h2 h0 h1 hr))
        rw [Hw.out] at HY
        go_enter Tryd.func13, Tryd.ntmps13
        go_wp2_with fail
        refine (ref_Right _ _ (by rw [ByteArray.size_extract]; omega)).mono ?_; rintro e w1 ⟨rfl, rfl⟩
        rw [hr]
        go_wp2_with fail
        (exact bodyPost_ret (v := .tuple #[.agg #[.bool false, .string (s.extract 1 (s.size - 1))], .bool true]) (by simp [results, Tryd.results13, go_sem]) rfl ⟨by rw [HY.out]; rfl, ((Ext.refl w).alloc _).alloc _⟩)
  · obtain ⟨hp3, hp2, hp4⟩ := wk_yes hw
    obtain ⟨R, hR0⟩ : ∃ R, wkR s = R := ⟨_, rfl⟩
    have hRs : s.extract 2 s.size = R := hp4.symm.trans hR0
    rw [hR0] at hrs
    have hR := Lib.hid hR0; clear hR0
    have Hw := Lib.hid hw; clear hw hp4
    by_cases h2 : R.size < 2
    · have HN := Lib.hid (tag_none (s := s) (by rw [hR.out]; exact txt_short h2))
      go_enter Tryd.func13, Tryd.ntmps13
      go_wp2_with fail
      (exact bodyPost_ret (v := .tuple #[.agg #[.bool false, .string ⟨#[]⟩], .bool false]) (by simp [results, Tryd.results13, go_sem]) rfl ⟨by rw [HN.out]; rfl, ((Ext.refl w).alloc _).alloc _⟩)
    by_cases h0 : ((R[0]'(by omega)).toNat : Int) = 34
    case neg =>
      have HN := Lib.hid (tag_none (s := s) (by rw [hR.out]; exact txt_no0 h2 h0))
      have hq0 : (((R[0]'(by omega)).toNat : Int) != 34) = true := by simp [h0]
      go_enter Tryd.func13, Tryd.ntmps13
      go_wp2_with fail
      (exact bodyPost_ret (v := .tuple #[.agg #[.bool false, .string ⟨#[]⟩], .bool false]) (by simp [results, Tryd.results13, go_sem]) rfl ⟨by rw [HN.out]; rfl, ((Ext.refl w).alloc _).alloc _⟩)
    have hq0 : (((R[0]'(by omega)).toNat : Int) != 34) = false := by simp [h0]
    by_cases h1 : ((R[R.size - 1]'(by omega)).toNat : Int) = 34
    case neg =>
      have HN := Lib.hid (tag_none (s := s) (by rw [hR.out]; exact txt_no1 h2 h1))
      have hq1 : (((R[R.size - 1]'(by omega)).toNat : Int) != 34) = true := by simp [h1]
      go_enter Tryd.func13, Tryd.ntmps13
      go_wp2_with fail
      (exact bodyPost_ret (v := .tuple #[.agg #[.bool false, .string ⟨#[]⟩], .bool false]) (by simp [results, Tryd.results13, go_sem]) rfl ⟨by rw [HN.out]; rfl, ((Ext.refl w).alloc _).alloc _⟩)
    have hq1 : (((R[R.size - 1]'(by omega)).toNat : Int) != 34) = false := by simp [h1]
    cases hr : rightS (R.extract 1 (R.size - 1))
    · have HN := Lib.hid (tag_none (s := s) (by rw [hR.out]; exact txt_no2 h2 hr))
      go_enter Tryd.func13, Tryd.ntmps13
      go_wp2_with fail
      refine (ref_Right _ _ (by rw [ByteArray.size_extract]; omega)).mono ?_; rintro e w1 ⟨rfl, rfl⟩
      rw [hr]
      go_wp2_with fail
      (exact bodyPost_ret (v := .tuple #[.agg #[.bool false, .string ⟨#[]⟩], .bool false]) (by simp [results, Tryd.results13, go_sem]) rfl ⟨by rw [HN.out]; rfl, ((Ext.refl w).alloc _).alloc _⟩)
    · have HY := Lib.hid (tag_some (s := s) (by rw [hR.out]; exact txt_yes h2 h0 h1 hr))
      rw [Hw.out] at HY
      go_enter Tryd.func13, Tryd.ntmps13
      go_wp2_with fail
      refine (ref_Right _ _ (by rw [ByteArray.size_extract]; omega)).mono ?_; rintro e w1 ⟨rfl, rfl⟩
      rw [hr]
      go_wp2_with fail
      (exact bodyPost_ret (v := .tuple #[.agg #[.bool true, .string (R.extract 1 (R.size - 1))], .bool true]) (by simp [results, Tryd.results13, go_sem]) rfl ⟨by rw [HY.out]; rfl, ((Ext.refl w).alloc _).alloc _⟩)

end Go.Proofs.YtghaopeijncgaaaDoor
