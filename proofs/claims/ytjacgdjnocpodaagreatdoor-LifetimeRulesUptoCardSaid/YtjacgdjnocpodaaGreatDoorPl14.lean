
/- What the functions of lifetime and quaysideref14 compute, in plain words; their bounds. No program in sight. -/
import Derived.Test.YtjacgdjnocpodaaGreatDoorParse
import Derived.Test.YtjacgdjnocpodaaGreatDoorDate5
import Derived.Test.YtjacgdjnocpodaaGreatDoorPlain3
namespace Go.Proofs.YtjacgdjnocpodaaGreatDoor

/-! Directives within their bounds. -/
def bdT (n : Int) : Prop := -1 ≤ n ∧ n ≤ 2147483647
def bdD (d : D) : Prop := bdT d.n0 ∧ bdT d.n1 ∧ bdT d.n2 ∧ bdT d.n3 ∧ bdT d.n4 ∧ bdT d.n5
theorem timeV_bd (s : ByteArray) (th : Bool) {bad miss : Int} (h1 : 0 ≤ bad) (h2 : 0 ≤ miss) (h3 : bad ≤ 2147483647) (h4 : miss ≤ 2147483647) : 0 ≤ timeV s th bad miss ∧ timeV s th bad miss ≤ 2147483647 := by
  unfold timeV
  have := numQ_range s
  split
  · split
    · exact this
    · exact ⟨h1, h3⟩
  · exact ⟨h2, h4⟩
theorem lst_bd {a t : Int} (ha : bdT a) (ht : 0 ≤ t ∧ t ≤ 2147483647) : bdT (lst a t) := by
  unfold lst bdT at *
  split
  · omega
  · split <;> omega
theorem stepK_bd {d : D} {t u v : Int} (k : Nat) (h : bdD d) (ht : 0 ≤ t ∧ t ≤ 2147483647) (hu : 0 ≤ u ∧ u ≤ 2147483647) (hv : 0 ≤ v ∧ v ≤ 2147483647) : bdD (stepK d k t u v) := by
  obtain ⟨h0, h1, h2, h3, h4, h5⟩ := h
  unfold stepK
  split
  case h_1 => exact ⟨h0, h1, h2, h3, h4, h5⟩
  case h_2 => exact ⟨h0, h1, h2, h3, h4, h5⟩
  case h_3 => exact ⟨h0, h1, h2, h3, h4, h5⟩
  case h_4 => exact ⟨h0, h1, h2, h3, h4, h5⟩
  case h_5 => exact ⟨h0, h1, h2, h3, h4, h5⟩
  case h_6 => exact ⟨h0, h1, h2, h3, h4, h5⟩
  case h_7 => exact ⟨h0, h1, h2, h3, h4, h5⟩
  case h_8 => exact ⟨lst_bd h0 ht, h1, h2, h3, h4, h5⟩
  case h_9 => exact ⟨h0, lst_bd h1 ht, h2, h3, h4, h5⟩
  case h_10 => exact ⟨h0, h1, lst_bd h2 ht, h3, h4, h5⟩
  case h_11 => exact ⟨h0, h1, h2, lst_bd h3 ht, h4, h5⟩
  case h_12 => exact ⟨h0, h1, h2, h3, lst_bd h4 hu, h5⟩
  case h_13 => exact ⟨h0, h1, h2, h3, h4, by unfold bdT at *; show -1 ≤ max d.n5 v ∧ max d.n5 v ≤ 2147483647; omega⟩
  case h_14 => exact ⟨h0, h1, h2, h3, h4, h5⟩
theorem stepD_bd {d : D} (x : ByteArray) (h : bdD d) : bdD (stepD d x) :=
  stepK_bd _ h (timeV_bd _ _ (by decide) (by decide) (by decide) (by decide)) (timeV_bd _ _ (by decide) (by decide) (by decide) (by decide)) (timeV_bd _ _ (by decide) (by decide) (by decide) (by decide))
theorem fold_bd : ∀ (l : List ByteArray) {d : D}, bdD d → bdD (l.foldl stepD d)
  | [], _, h => h
  | x :: l, _, h => fold_bd l (stepD_bd x h)
theorem stepV_bd {d : D} (v : ByteArray) (h : bdD d) : bdD (stepV d v) := by
  unfold stepV
  split
  · exact fold_bd _ h
  · exact h
theorem vals_bd : ∀ (l : List ByteArray) {d : D}, bdD d → bdD (l.foldl stepV d)
  | [], _, h => h
  | x :: l, _, h => vals_bd l (stepV_bd x h)
theorem none_bd : bdD noneD := by unfold bdD bdT noneD; simp
theorem dirS_bd (vs : List ByteArray) : bdD (dirS vs) := vals_bd vs none_bd
theorem dirS_snoc (vs : List ByteArray) (v : ByteArray) : dirS (vs ++ [v]) = stepV (dirS vs) v := by unfold dirS; rw [List.foldl_append]; rfl

/-! Dates. -/
def dateN : ByteArray := ⟨#[100, 97, 116, 101]⟩
def expN : ByteArray := ⟨#[101, 120, 112, 105, 114, 101, 115]⟩
def lmN : ByteArray := ⟨#[108, 97, 115, 116, 45, 109, 111, 100, 105, 102, 105, 101, 100]⟩
/-- The moment of the one value of a name. -/
def oneP : List ByteArray → Option Int
  | [v] => dateP v
  | _ => none
def dateS (fs : List Fd) (name : ByteArray) : Option Int := oneP (allS fs name)
theorem oneP_no {l : List ByteArray} (h : l.length ≠ 1) : oneP l = none := by
  match l, h with
  | [], _ => rfl
  | [a], h => exact absurd rfl h
  | a :: b :: r, _ => rfl
theorem oneP_bd {l : List ByteArray} {n : Int} (h : oneP l = some n) : 0 ≤ n ∧ n ≤ 253402300799 := by
  match l, h with
  | [v], h => exact dateP_bd h
theorem dateS_bd {fs : List Fd} {name : ByteArray} {n : Int} (h : dateS fs name = some n) : 0 ≤ n ∧ n ≤ 253402300799 := oneP_bd h
def dtV (o : Option Int) : Value := .tuple #[.int .i64 (o.getD 0), .bool o.isSome]

/-! Lifetimes. -/
def negS (st : Int) : Bool := st == 404 || st == 405 || st == 410 || st == 414 || st == 501
def cacL : List Int := [200, 203, 204, 206, 300, 301, 308]
def cacS (st : Int) : Bool := cacL.contains st || negS st
def ccD (fs : List Fd) : D := dirS (allS fs ccN)
theorem ccD_bd (fs : List Fd) : bdD (ccD fs) := dirS_bd _
def exO (a b : Option Int) : Int := match a, b with
  | some x, some y => 1000 * max 0 (y - x)
  | _, _ => 0
def exS (fs : List Fd) : Int := exO (dateS fs dateN) (dateS fs expN)
def gsO (st : Int) (a b : Option Int) : Option Int := match a, b with
  | some x, some y => if cacS st && decide (y < x) then some (min (if negS st then 10000 else 86400000) (1000 * (x - y) / 10)) else none
  | _, _ => none
def gsS (st : Int) (fs : List Fd) : Option Int := gsO st (dateS fs dateN) (dateS fs lmN)
def hasF (fs : List Fd) (name : ByteArray) : Bool := decide (0 < (allS fs name).length)
def xplS (fs : List Fd) : Bool := decide (0 ≤ (ccD fs).n1) || decide (0 ≤ (ccD fs).n0) || hasF fs expN
def ofS (st : Int) (fs : List Fd) : Int × Int :=
  if 0 ≤ (ccD fs).n1 then (1000 * (ccD fs).n1, 1)
  else if 0 ≤ (ccD fs).n0 then (1000 * (ccD fs).n0, 2)
  else if hasF fs expN then (exS fs, 3)
  else match gsS st fs with
    | some n => (n, 4)
    | none => (0, 5)
def alwS (fs : List Fd) : Int × Int :=
  if (ccD fs).b4 || (ccD fs).b1 || decide (0 ≤ (ccD fs).n1) then (0, 0) else (1000 * max 0 (ccD fs).n2, 1000 * max 0 (ccD fs).n3)
def pairV (p : Int × Int) : Value := .tuple #[.int .i64 p.1, .int .i64 p.2]

theorem exO_bd {a b : Option Int} (ha : ∀ x, a = some x → 0 ≤ x ∧ x ≤ 253402300799) (hb : ∀ x, b = some x → 0 ≤ x ∧ x ≤ 253402300799) : 0 ≤ exO a b ∧ exO a b ≤ 253402300799000 := by
  unfold exO
  cases a with
  | none => simp
  | some x =>
    cases b with
    | none => simp
    | some y =>
      have := ha x rfl
      have := hb y rfl
      simp only []
      omega
theorem exS_bd (fs : List Fd) : 0 ≤ exS fs ∧ exS fs ≤ 253402300799000 := exO_bd (fun _ h => dateS_bd h) (fun _ h => dateS_bd h)
theorem gsO_bd {st : Int} {a b : Option Int} {n : Int} (h : gsO st a b = some n) : 0 ≤ n ∧ n ≤ 86400000 ∧ cacS st = true := by
  unfold gsO at h
  cases a with
  | none => cases h
  | some x =>
    cases b with
    | none => cases h
    | some y =>
      simp only [] at h
      split at h
      · rename_i hc
        injection h with h
        simp only [Bool.and_eq_true, decide_eq_true_eq] at hc
        refine ⟨?_, ?_, hc.1⟩
        · rw [← h]; split <;> omega
        · rw [← h]; split <;> omega
      · cases h
/-- Lifetimes and their kinds within their bounds. -/
theorem ofS_bd (st : Int) (fs : List Fd) :
    0 ≤ (ofS st fs).1 ∧ (ofS st fs).1 ≤ 253402300799000 ∧ (((ofS st fs).2 = 1 ∧ (ofS st fs).1 ≤ 2147483647000) ∨ ((ofS st fs).2 = 2 ∧ (ofS st fs).1 ≤ 2147483647000) ∨ ((ofS st fs).2 = 3 ∧ (ofS st fs).1 ≤ 253402300799000) ∨
      ((ofS st fs).2 = 4 ∧ (ofS st fs).1 ≤ 86400000 ∧ cacS st = true) ∨ ((ofS st fs).2 = 5 ∧ (ofS st fs).1 = 0)) := by
  obtain ⟨h0, h1, h2, h3, h4, h5⟩ := ccD_bd fs
  unfold bdT at *
  have hx := exS_bd fs
  unfold ofS
  by_cases g1 : 0 ≤ (ccD fs).n1
  · rw [if_pos g1]; exact ⟨by show 0 ≤ 1000 * (ccD fs).n1; omega, by show 1000 * (ccD fs).n1 ≤ _; omega, .inl ⟨rfl, by show 1000 * (ccD fs).n1 ≤ _; omega⟩⟩
  rw [if_neg g1]
  by_cases g0 : 0 ≤ (ccD fs).n0
  · rw [if_pos g0]; exact ⟨by show 0 ≤ 1000 * (ccD fs).n0; omega, by show 1000 * (ccD fs).n0 ≤ _; omega, .inr (.inl ⟨rfl, by show 1000 * (ccD fs).n0 ≤ _; omega⟩)⟩
  rw [if_neg g0]
  cases he : hasF fs expN
  · rw [if_neg (by decide)]
    cases hg : gsS st fs with
    | none => simp
    | some n =>
      obtain ⟨a, b, c⟩ := gsO_bd hg
      refine ⟨a, by simp only []; omega, .inr (.inr (.inr (.inl ⟨rfl, b, c⟩)))⟩
  · rw [if_pos rfl]
    exact ⟨hx.1, hx.2, .inr (.inr (.inl ⟨rfl, hx.2⟩))⟩
theorem alwS_bd (fs : List Fd) : 0 ≤ (alwS fs).1 ∧ (alwS fs).1 ≤ 2147483647000 ∧ 0 ≤ (alwS fs).2 ∧ (alwS fs).2 ≤ 2147483647000 := by
  obtain ⟨h0, h1, h2, h3, h4, h5⟩ := ccD_bd fs
  unfold bdT at *
  unfold alwS
  split
  · simp
  · simp only []; omega

/-! LifetimeStrict. -/
def mrW : ByteArray := ⟨#[109, 117, 115, 116, 45, 114, 101, 118, 97, 108, 105, 100, 97, 116, 101]⟩
def ncW : ByteArray := ⟨#[110, 111, 45, 99, 97, 99, 104, 101]⟩
def smW : ByteArray := ⟨#[115, 45, 109, 97, 120, 97, 103, 101, 61, 53]⟩
def prW : ByteArray := ⟨#[112, 114, 111, 120, 121, 45, 114, 101, 118, 97, 108, 105, 100, 97, 116, 101]⟩
theorem stepV_one {d : D} {w : ByteArray} (h1 : (partsS w 44).isSome = true) (h2 : itemsS w = [w]) : stepV d w = stepD d w := by
  unfold stepV; rw [if_pos h1, h2]; rfl
theorem step_mr (d : D) : stepV d mrW = { d with b4 := true } := by
  rw [stepV_one (by decide +kernel) (by decide +kernel)]
  unfold stepD; rw [show kindE (lowS (eqName mrW)) = 4 by decide +kernel]; rfl
theorem step_nc (d : D) : stepV d ncW = { d with b1 := true } := by
  rw [stepV_one (by decide +kernel) (by decide +kernel)]
  unfold stepD; rw [show kindE (lowS (eqName ncW)) = 1 by decide +kernel]; rfl
theorem step_pr (d : D) : stepV d prW = { d with b4 := true } := by
  rw [stepV_one (by decide +kernel) (by decide +kernel)]
  unfold stepD; rw [show kindE (lowS (eqName prW)) = 5 by decide +kernel]; rfl
theorem step_sm (d : D) : stepV d smW = { d with n1 := lst d.n1 5 } := by
  rw [stepV_one (by decide +kernel) (by decide +kernel)]
  unfold stepD; rw [show kindE (lowS (eqName smW)) = 8 by decide +kernel, show timeV (argE smW) (thE smW) 0 0 = 5 by decide +kernel]; rfl
theorem low_cc : lowS ccN = ccN := by decide +kernel
theorem ccD_add (fs : List Fd) (v : ByteArray) : ccD (fs ++ [(lowS ccN, v)]) = stepV (ccD fs) v := by
  unfold ccD; rw [allS_add_same, dirS_snoc]
theorem lst_nn (a : Int) : 0 ≤ lst a 5 := by unfold lst; split <;> (try split) <;> omega
theorem strict_mr (fs : List Fd) : alwS (fs ++ [(lowS ccN, mrW)]) = (0, 0) := by unfold alwS; rw [ccD_add, step_mr]; simp
theorem strict_nc (fs : List Fd) : alwS (fs ++ [(lowS ccN, ncW)]) = (0, 0) := by unfold alwS; rw [ccD_add, step_nc]; simp
theorem strict_pr (fs : List Fd) : alwS (fs ++ [(lowS ccN, prW)]) = (0, 0) := by unfold alwS; rw [ccD_add, step_pr]; simp
theorem strict_sm (fs : List Fd) : alwS (fs ++ [(lowS ccN, smW)]) = (0, 0) := by
  unfold alwS; rw [ccD_add, step_sm]
  have := lst_nn (ccD fs).n1
  simp [this]

/-! LifetimeDates. -/
def datF (a b c : Int) : List Fd := [(dateN, fmtS a), (expN, fmtS b), (lmN, fmtS c)]
theorem low_date : lowS dateN = dateN := by decide +kernel
theorem low_exp : lowS expN = expN := by decide +kernel
theorem low_lm : lowS lmN = lmN := by decide +kernel
theorem d_date_exp : lowS dateN ≠ lowS expN := by decide +kernel
theorem d_date_lm : lowS dateN ≠ lowS lmN := by decide +kernel
theorem d_exp_lm : lowS expN ≠ lowS lmN := by decide +kernel
theorem d_cc_date : lowS ccN ≠ lowS dateN := by decide +kernel
theorem d_cc_exp : lowS ccN ≠ lowS expN := by decide +kernel
theorem d_cc_lm : lowS ccN ≠ lowS lmN := by decide +kernel
theorem isN_same (n v : ByteArray) : isN n (n, v) = true := eqS_iff.2 rfl
theorem isN_diff {n o v : ByteArray} (h : lowS n ≠ lowS o) : isN o (n, v) = false := by
  unfold isN; exact eqS_no h
theorem all_cc_dat (a b c : Int) : allS (datF a b c) ccN = [] := by
  unfold datF allS
  simp [isN_diff d_cc_date.symm, isN_diff d_cc_exp.symm, isN_diff d_cc_lm.symm]
theorem all_date_dat (a b c : Int) : allS (datF a b c) dateN = [fmtS a] := by
  unfold datF allS
  simp [isN_same, isN_diff d_date_exp.symm, isN_diff d_date_lm.symm]
theorem all_exp_dat (a b c : Int) : allS (datF a b c) expN = [fmtS b] := by
  unfold datF allS
  simp [isN_same, isN_diff d_date_exp, isN_diff d_exp_lm.symm]
theorem all_lm_dat (a b c : Int) : allS (datF a b c) lmN = [fmtS c] := by
  unfold datF allS
  simp [isN_same, isN_diff d_exp_lm, isN_diff d_date_lm]
theorem ccD_none {fs : List Fd} (h : allS fs ccN = []) : ccD fs = noneD := by unfold ccD; rw [h]; rfl
theorem of_dates {a b c : Int} (st : Int) (ha : 0 ≤ a ∧ a ≤ 253402300799) (hb : 0 ≤ b ∧ b ≤ 253402300799) : ofS st (datF a b c) = (1000 * max 0 (b - a), 3) := by
  unfold ofS
  rw [ccD_none (all_cc_dat a b c), if_neg (by decide), if_neg (by decide)]
  unfold hasF
  rw [all_exp_dat, if_pos (by simp)]
  unfold exS dateS
  rw [all_date_dat, all_exp_dat]
  simp only [oneP, dateP_fmtS ha.1 ha.2, dateP_fmtS hb.1 hb.2, exO]
theorem of_heur {fs : List Fd} {a c : Int} (st : Int) (h1 : allS fs ccN = []) (h2 : allS fs expN = []) (h3 : dateS fs dateN = some a) (h4 : dateS fs lmN = some c) :
    ofS st fs = if cacS st && decide (c < a) then (min (if negS st then 10000 else 86400000) (1000 * (a - c) / 10), 4) else (0, 5) := by
  unfold ofS
  rw [ccD_none h1, if_neg (by decide), if_neg (by decide)]
  unfold hasF
  rw [h2, if_neg (by decide)]
  unfold gsS
  rw [h3, h4]
  simp only [gsO]
  cases cacS st && decide (c < a) <;> simp
theorem of_heur_dat {a b c : Int} (st : Int) (ha : 0 ≤ a ∧ a ≤ 253402300799) (hc : 0 ≤ c ∧ c ≤ 253402300799) :
    ofS st (remS (datF a b c) expN) = if cacS st && decide (c < a) then (min (if negS st then 10000 else 86400000) (1000 * (a - c) / 10), 4) else (0, 5) := by
  refine of_heur st ?_ (allS_rem_same _ _) ?_ ?_
  · rw [allS_rem_other _ d_cc_exp.symm, all_cc_dat]
  · unfold dateS; rw [allS_rem_other _ d_date_exp.symm, all_date_dat]; exact dateP_fmtS ha.1 ha.2
  · unfold dateS; rw [allS_rem_other _ d_exp_lm, all_lm_dat]; exact dateP_fmtS hc.1 hc.2
theorem neg_cac {st : Int} (h : cacS st = true) : negS st = decide (400 ≤ st) := by
  unfold cacS cacL at h
  simp only [Bool.or_eq_true, List.contains_eq_mem, List.mem_cons, List.not_mem_nil, or_false, decide_eq_true_eq] at h
  unfold negS at *
  rcases h with h | h
  · rcases h with h | h | h | h | h | h | h <;> subst h <;> rfl
  · simp only [Bool.or_eq_true, beq_iff_eq] at h
    rcases h with (((h | h) | h) | h) | h <;> subst h <;> rfl

/-! LifetimeBroken. -/
theorem of_no_exp {fs : List Fd} (st : Int) (h1 : allS fs ccN = []) (h2 : hasF fs expN = true) (h3 : dateS fs dateN = none ∨ dateS fs expN = none) : ofS st fs = (0, 3) := by
  unfold ofS
  rw [ccD_none h1, if_neg (by decide), if_neg (by decide), if_pos h2]
  unfold exS
  rcases h3 with h | h
  · rw [h]; rfl
  · rw [h]; cases dateS fs dateN <;> rfl
theorem of_no_heur {fs : List Fd} (st : Int) (h1 : allS fs ccN = []) (h2 : allS fs expN = []) (h3 : dateS fs dateN = none ∨ dateS fs lmN = none) : ofS st fs = (0, 5) := by
  unfold ofS
  rw [ccD_none h1, if_neg (by decide), if_neg (by decide)]
  unfold hasF
  rw [h2, if_neg (by decide)]
  unfold gsS
  rcases h3 with h | h
  · rw [h]; rfl
  · rw [h]; cases dateS fs dateN <;> rfl
end Go.Proofs.YtjacgdjnocpodaaGreatDoor
