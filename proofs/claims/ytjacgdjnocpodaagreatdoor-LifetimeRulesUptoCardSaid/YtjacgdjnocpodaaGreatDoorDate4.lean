
/- The walk of httpdate.Parse. -/
import Derived.Test.YtjacgdjnocpodaaGreatDoorDate3
import Derived.Deep.DeepCutAuto
namespace Go.Proofs.YtjacgdjnocpodaaGreatDoor
open Go.RowKit

/-- The number of a month's name among the first k; 0 if it is none of them. -/
def moA (t : ByteArray) : Nat → Nat
  | 0 => 0
  | k + 1 => if (t.toList == (moS (k + 1)).toList) then k + 1 else moA t k
theorem moA_yes {t : ByteArray} {k : Nat} (h : (t.toList == (moS (k + 1)).toList) = true) : moA t (k + 1) = k + 1 := if_pos h
theorem moA_no {t : ByteArray} {k : Nat} (h : (t.toList == (moS (k + 1)).toList) = false) : moA t (k + 1) = moA t k := if_neg (by rw [h]; decide)
theorem moA_le (t : ByteArray) : ∀ k, moA t k ≤ k
  | 0 => Nat.le_refl _
  | k + 1 => by
    unfold moA
    have := moA_le t k
    split <;> omega
def secN (y : Int) (m : Nat) (d h mi se : Int) : Int := 86400 * dayN y m d + 3600 * h + 60 * mi + se
/-- What Parse makes of the parts. -/
def dateQ (s : ByteArray) (d c y h mi se : Int) (m : Nat) : Option Int :=
  if d < 0 ∨ c < 0 ∨ y < 0 ∨ h < 0 ∨ 23 < h ∨ mi < 0 ∨ 59 < mi ∨ se < 0 ∨ 59 < se then none
  else if okD (100 * c + y) m d then (if ((fmtS (secN (100 * c + y) m d h mi se)).toList == s.toList) then some (secN (100 * c + y) m d h mi se) else none) else none
def dateP (s : ByteArray) : Option Int :=
  if s.size = 29 then dateQ s (num2 (s.extract 5 7)) (num2 (s.extract 12 14)) (num2 (s.extract 14 16)) (num2 (s.extract 17 19)) (num2 (s.extract 20 22)) (num2 (s.extract 23 25)) (moA (s.extract 8 11) 12) else none
def dpV : Option Int → Value
  | some n => .tuple #[.int .i64 n, .nilIface]
  | none => .tuple #[.int .i64 0, errV 2]
theorem dateQ_bad {s : ByteArray} {d c y h mi se : Int} {m : Nat} (hb : d < 0 ∨ c < 0 ∨ y < 0 ∨ h < 0 ∨ 23 < h ∨ mi < 0 ∨ 59 < mi ∨ se < 0 ∨ 59 < se) : dpV (dateQ s d c y h mi se m) = .tuple #[.int .i64 0, errV 2] := by unfold dateQ; rw [if_pos hb]; rfl
theorem dateQ_day {s : ByteArray} {d c y h mi se : Int} {m : Nat} (hd : ¬ okD (100 * c + y) m d) : dpV (dateQ s d c y h mi se m) = .tuple #[.int .i64 0, errV 2] := by unfold dateQ; rw [if_neg hd]; split <;> rfl
theorem dateQ_txt {s : ByteArray} {d c y h mi se : Int} {m : Nat} (hd : ((fmtS (secN (100 * c + y) m d h mi se)).toList == s.toList) = false) : dpV (dateQ s d c y h mi se m) = .tuple #[.int .i64 0, errV 2] := by unfold dateQ; rw [hd]; split <;> (try split) <;> rfl
theorem dateQ_yes {s : ByteArray} {d c y h mi se : Int} {m : Nat} (hb : ¬ (d < 0 ∨ c < 0 ∨ y < 0 ∨ h < 0 ∨ 23 < h ∨ mi < 0 ∨ 59 < mi ∨ se < 0 ∨ 59 < se)) (hk : okD (100 * c + y) m d)
    (hd : ((fmtS (secN (100 * c + y) m d h mi se)).toList == s.toList) = true) : dpV (dateQ s d c y h mi se m) = .tuple #[.int .i64 (secN (100 * c + y) m d h mi se), .nilIface] := by unfold dateQ; rw [if_neg hb, if_pos hk, hd]; rfl
def moV : Array Value := #[.string (moS 1), .string (moS 2), .string (moS 3), .string (moS 4), .string (moS 5), .string (moS 6), .string (moS 7), .string (moS 8), .string (moS 9), .string (moS 10), .string (moS 11), .string (moS 12)]
set_option maxRecDepth 100000 in
theorem mo_index (k : Nat) (hk : k < 12) (w : World) : (Instr.index 91 (.agg moV) (.int .i64 (k : Nat))).run Tryz.prog w = .ok (.string (moS (k + 1))) w := by
  have : k = 0 ∨ k = 1 ∨ k = 2 ∨ k = 3 ∨ k = 4 ∨ k = 5 ∨ k = 6 ∨ k = 7 ∨ k = 8 ∨ k = 9 ∨ k = 10 ∨ k = 11 := by omega
  rcases this with h | h | h | h | h | h | h | h | h | h | h | h <;> subst h <;> rfl
theorem GlH.moR {w : World} (h : GlH w) : w.rangeAt 0 0 moV.toList := by
  intro j v hv
  have hj : j < 12 := by
    have := (List.getElem?_eq_some_iff.1 hv).1
    exact this
  have := h.monS (m := j + 1) (by omega) (by omega)
  rw [Nat.zero_add]
  rw [Nat.add_sub_cancel] at this
  rw [this]
  have : j = 0 ∨ j = 1 ∨ j = 2 ∨ j = 3 ∨ j = 4 ∨ j = 5 ∨ j = 6 ∨ j = 7 ∨ j = 8 ∨ j = 9 ∨ j = 10 ∨ j = 11 := by omega
  rcases this with h | h | h | h | h | h | h | h | h | h | h | h <;> subst h <;> exact hv
theorem mo_load {w : World} (h : GlH w) : (Instr.loadAt 91 (.pointer (some ⟨0, 0, none⟩))).run Tryz.prog w = .ok (.agg moV) w :=
  run_loadAt_mid (P := Tryz.prog) w _ 0 91 moV.toList _ h.moR Tryz.underlying91 rfl (by kernel_rfl)

set_option maxHeartbeats 4000000 in
set_option maxRecDepth 100000 in
theorem http_Parse (s : ByteArray) (w : World) (_hs : s.size ≤ 140737488351232) (hg : GlH w) :
    Calls Tryz.prog 37 #[.string s] w fun e w' => e = .returned (dpV (dateP s)) ∧ Ext w w' := by
  by_cases h29 : s.size = 29
  rotate_left
  · have Hn := Lib.hid (show Value.tuple #[.int .i64 0, errV 2] = dpV (dateP s) by unfold dateP; rw [if_neg h29]; rfl)
    have hz : ((s.size : Int) == 29) = false := by rw [beq_eq_false_iff_ne]; omega
    go_enter Tryz.func37, Tryz.ntmps37
    go_wp2_with fail
    all_goals (go_ret2; exact ⟨ret_v Hn.out, Ext.refl _⟩)
  have Hp : dateP s = dateQ s (num2 (s.extract 5 7)) (num2 (s.extract 12 14)) (num2 (s.extract 14 16)) (num2 (s.extract 17 19)) (num2 (s.extract 20 22)) (num2 (s.extract 23 25)) (moA (s.extract 8 11) 12) := if_pos h29
  rw [Hp]; clear Hp
  obtain ⟨T1, hx1⟩ : ∃ T, s.extract 5 7 = T := ⟨_, rfl⟩
  obtain ⟨T2, hx2⟩ : ∃ T, s.extract 12 14 = T := ⟨_, rfl⟩
  obtain ⟨T3, hx3⟩ : ∃ T, s.extract 14 16 = T := ⟨_, rfl⟩
  obtain ⟨T4, hx4⟩ : ∃ T, s.extract 17 19 = T := ⟨_, rfl⟩
  obtain ⟨T5, hx5⟩ : ∃ T, s.extract 20 22 = T := ⟨_, rfl⟩
  obtain ⟨T6, hx6⟩ : ∃ T, s.extract 23 25 = T := ⟨_, rfl⟩
  obtain ⟨T7, hx7⟩ : ∃ T, s.extract 8 11 = T := ⟨_, rfl⟩
  obtain ⟨m, hM⟩ : ∃ m, moA T7 12 = m := ⟨_, rfl⟩
  have hm12 : m ≤ 12 := by rw [← hM]; exact moA_le T7 12
  rw [hx1, hx2, hx3, hx4, hx5, hx6, hx7, hM]
  have N1 := Lib.hid (fun w => http_number T1 w (by rw [← hx1, ByteArray.size_extract]; omega))
  have B1 := num2_bd T1
  generalize num2 T1 = d at *
  have N2 := Lib.hid (fun w => http_number T2 w (by rw [← hx2, ByteArray.size_extract]; omega))
  have B2 := num2_bd T2
  generalize num2 T2 = c at *
  have N3 := Lib.hid (fun w => http_number T3 w (by rw [← hx3, ByteArray.size_extract]; omega))
  have B3 := num2_bd T3
  generalize num2 T3 = y at *
  have N4 := Lib.hid (fun w => http_number T4 w (by rw [← hx4, ByteArray.size_extract]; omega))
  have B4 := num2_bd T4
  generalize num2 T4 = h at *
  have N5 := Lib.hid (fun w => http_number T5 w (by rw [← hx5, ByteArray.size_extract]; omega))
  have B5 := num2_bd T5
  generalize num2 T5 = mi at *
  have N6 := Lib.hid (fun w => http_number T6 w (by rw [← hx6, ByteArray.size_extract]; omega))
  have B6 := num2_bd T6
  generalize num2 T6 = se at *
  have Hbad := Lib.hid (fun m => @dateQ_bad s d c y h mi se m)
  have Hday := Lib.hid (fun m => @dateQ_day s d c y h mi se m)
  have Htxt := Lib.hid (fun m => @dateQ_txt s d c y h mi se m)
  have Hyes := Lib.hid (fun m => @dateQ_yes s d c y h mi se m)
  go_enter Tryz.func37, Tryz.ntmps37
  go_wp2_with fail
  have hE := (Ext.refl w).drew
  go_region_held3 (fun _ => True) (trivial)
    (first
      | (go_at_call_of 54 T1; refine (N1.out _).mono ?_; rintro e w2 ⟨rfl, hb2⟩; have hE := hE.trans hb2)
      | (go_at_call_of 54 T2; refine (N2.out _).mono ?_; rintro e w2 ⟨rfl, hb2⟩; have hE := hE.trans hb2)
      | (go_at_call_of 54 T3; refine (N3.out _).mono ?_; rintro e w2 ⟨rfl, hb2⟩; have hE := hE.trans hb2))
  go_wp2_with fail
  have hE := hE.drew
  go_region_held3 (fun _ => True) (trivial)
    (first
      | (go_at_call_of 54 T4; refine (N4.out _).mono ?_; rintro e w2 ⟨rfl, hb2⟩; have hE := hE.trans hb2)
      | (go_at_call_of 54 T5; refine (N5.out _).mono ?_; rintro e w2 ⟨rfl, hb2⟩; have hE := hE.trans hb2)
      | (go_at_call_of 54 T6; refine (N6.out _).mono ?_; rintro e w2 ⟨rfl, hb2⟩; have hE := hE.trans hb2))
  have hg' := hg.ext hE
  have c1 := hg'.monS (m := 1) (by decide) (by decide)
  have c2 := hg'.monS (m := 2) (by decide) (by decide)
  have c3 := hg'.monS (m := 3) (by decide) (by decide)
  have c4 := hg'.monS (m := 4) (by decide) (by decide)
  have c5 := hg'.monS (m := 5) (by decide) (by decide)
  have c6 := hg'.monS (m := 6) (by decide) (by decide)
  have c7 := hg'.monS (m := 7) (by decide) (by decide)
  have c8 := hg'.monS (m := 8) (by decide) (by decide)
  have c9 := hg'.monS (m := 9) (by decide) (by decide)
  have c10 := hg'.monS (m := 10) (by decide) (by decide)
  have c11 := hg'.monS (m := 11) (by decide) (by decide)
  have c12 := hg'.monS (m := 12) (by decide) (by decide)
  simp only [Nat.reduceSub] at c1 c2 c3 c4 c5 c6 c7 c8 c9 c10 c11 c12
  go_wp2_with fail
  have HM := Lib.hid hM; clear hM
  clear c1 c2 c3 c4 c5 c6 c7 c8 c9 c10 c11 c12
  go_loopw [10, 41] (fun m i wr => ∃ k : Nat, k ≤ 12 ∧ m = .int .i64 (moA T7 k : Nat) ∧ i = .int .i64 (k : Nat) ∧ wr = w2) (fun _ i _ => 12 - (intOf i).toNat)
  case atStart => exact ⟨0, by omega, rfl, rfl, rfl⟩
  case round =>
    obtain ⟨k, hk, hmk, rfl, rfl⟩ := hrel
    by_cases hlt : k < 12
    · subst hmk
      have hix := mo_index k hlt
      unfold moV at hix
      generalize ht : moS (k + 1) = t at *
      cases he : (T7.toList == t.toList)
      · have Hm := Lib.hid (show moA T7 (k + 1) = moA T7 k from moA_no (by rw [ht]; exact he))
        go_wp2_with fail
        go_roundw
        case rel => exact ⟨k + 1, by omega, by rw [Hm.out], by go_num, trivial⟩
        case measure => simp [intOf]; omega
      · have Hm := Lib.hid (show moA T7 (k + 1) = k + 1 from moA_yes (by rw [ht]; exact he))
        go_wp2_with fail
        go_roundw
        case rel => exact ⟨k + 1, by omega, by rw [Hm.out]; go_num, by go_num, trivial⟩
        case measure => simp [intOf]; omega
    · obtain rfl : k = 12 := by omega
      rw [HM.out] at hmk
      subst hmk
      have Hbad := Lib.hid (Hbad.out m)
      have Hday := Lib.hid (Hday.out m)
      have Htxt := Lib.hid (Htxt.out m)
      have Hyes := Lib.hid (Hyes.out m)
      by_cases a0 : d < 0
      · have Hn := Lib.hid (Hbad.out (by omega))
        go_wp2_with fail
        all_goals (go_ret2; exact ⟨ret_v Hn.out.symm, hE⟩)
      by_cases a1 : c < 0
      · have Hn := Lib.hid (Hbad.out (by omega))
        go_wp2_with fail
        all_goals (go_ret2; exact ⟨ret_v Hn.out.symm, hE⟩)
      by_cases a2 : y < 0
      · have Hn := Lib.hid (Hbad.out (by omega))
        go_wp2_with fail
        all_goals (go_ret2; exact ⟨ret_v Hn.out.symm, hE⟩)
      by_cases a3 : h < 0
      · have Hn := Lib.hid (Hbad.out (by omega))
        go_wp2_with fail
        all_goals (go_ret2; exact ⟨ret_v Hn.out.symm, hE⟩)
      by_cases a4 : 23 < h
      · have Hn := Lib.hid (Hbad.out (by omega))
        go_wp2_with fail
        all_goals (go_ret2; exact ⟨ret_v Hn.out.symm, hE⟩)
      by_cases a5 : mi < 0
      · have Hn := Lib.hid (Hbad.out (by omega))
        go_wp2_with fail
        all_goals (go_ret2; exact ⟨ret_v Hn.out.symm, hE⟩)
      by_cases a6 : 59 < mi
      · have Hn := Lib.hid (Hbad.out (by omega))
        go_wp2_with fail
        all_goals (go_ret2; exact ⟨ret_v Hn.out.symm, hE⟩)
      by_cases a7 : se < 0
      · have Hn := Lib.hid (Hbad.out (by omega))
        go_wp2_with fail
        all_goals (go_ret2; exact ⟨ret_v Hn.out.symm, hE⟩)
      by_cases a8 : 59 < se
      · have Hn := Lib.hid (Hbad.out (by omega))
        go_wp2_with fail
        all_goals (go_ret2; exact ⟨ret_v Hn.out.symm, hE⟩)
      have Hok := Lib.hid (show ¬ (d < 0 ∨ c < 0 ∨ y < 0 ∨ h < 0 ∨ 23 < h ∨ mi < 0 ∨ 59 < mi ∨ se < 0 ∨ 59 < se) by omega)
      have hdy := http_Day (100 * c + y) m d _ (by omega) (by omega) hm12 (by omega) (by omega) hg'
      by_cases hok : okD (100 * c + y) m d
      rotate_left
      · have Hn := Lib.hid (Hday.out hok)
        rw [dayV_no hok, show errV 1 = .iface 86 (.int .i64 1) from rfl] at hdy
        have Hd := Lib.hid hdy; clear hdy hok
        go_wp2_with fail
        refine Hd.out.mono ?_; rintro e w3 ⟨rfl, rfl⟩
        go_wp2_with fail
        all_goals (go_ret2; exact ⟨ret_v Hn.out.symm, hE⟩)
      rw [dayV_yes hok] at hdy
      have Hd := Lib.hid hdy; clear hdy
      obtain ⟨e0, e1⟩ := day_bd hok
      have Hyes := Lib.hid (Hyes.out Hok.out hok)
      unfold secN at Htxt Hyes
      clear hok
      generalize dayN (100 * c + y) m d = D at *
      have hfm := Lib.hid (fun w => http_Format (86400 * D + 3600 * h + 60 * mi + se) w (by omega) (by omega))
      cases hq : ((fmtS (86400 * D + 3600 * h + 60 * mi + se)).toList == s.toList)
      · have Hn := Lib.hid (Htxt.out hq)
        go_wp2_with fail
        refine Hd.out.mono ?_; rintro e w3 ⟨rfl, rfl⟩
        go_wp2_with fail
        refine (hfm.out _ hg').mono ?_; rintro e w4 ⟨rfl, hb4⟩
        go_wp2_with fail
        all_goals (go_ret2; exact ⟨ret_v Hn.out.symm, hE.trans hb4⟩)
      · have Hn := Lib.hid (Hyes.out hq)
        go_wp2_with fail
        refine Hd.out.mono ?_; rintro e w3 ⟨rfl, rfl⟩
        go_wp2_with fail
        refine (hfm.out _ hg').mono ?_; rintro e w4 ⟨rfl, hb4⟩
        go_wp2_with fail
        all_goals (go_ret2; exact ⟨ret_v Hn.out.symm, hE.trans hb4⟩)
end Go.Proofs.YtjacgdjnocpodaaGreatDoor
