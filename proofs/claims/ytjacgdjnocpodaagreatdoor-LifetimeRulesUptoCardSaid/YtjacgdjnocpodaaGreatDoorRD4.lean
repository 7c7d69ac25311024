
/- The walk of quaysideref04.Parse: it agrees with httpdate.Parse. -/
import Derived.Test.YtjacgdjnocpodaaGreatDoorRD3
namespace Go.Proofs.YtjacgdjnocpodaaGreatDoor
open Go.RowKit

/-- r is the first month whose name t is, or 13. -/
def MF (t : ByteArray) (r : Nat) : Prop := 1 ≤ r ∧ r ≤ 13 ∧ (∀ j, 1 ≤ j → j < r → ((moS j).toList == t.toList) = false) ∧ (r < 13 → ((moS r).toList == t.toList) = true)
theorem moA_hit (t : ByteArray) : ∀ k, 0 < moA t k → t.toList = (moS (moA t k)).toList
  | 0, h => absurd h (by unfold moA; decide)
  | k + 1, h => by
    cases he : (t.toList == (moS (k + 1)).toList)
    · rw [moA_no he] at h ⊢
      exact moA_hit t k h
    · rw [moA_yes he]
      exact eq_of_beq he
theorem moA_pos (t : ByteArray) : ∀ k j, 1 ≤ j → j ≤ k → t.toList = (moS j).toList → 0 < moA t k
  | 0, j, h1, h2, _ => by omega
  | k + 1, j, h1, h2, h => by
    cases he : (t.toList == (moS (k + 1)).toList)
    · rw [moA_no he]
      by_cases hj : j = k + 1
      · subst hj; rw [h, beq_self_eq_true] at he; exact absurd he (by decide)
      · exact moA_pos t k j h1 (by omega) h
    · rw [moA_yes he]; omega
theorem moS_inj {a b : Nat} (ha : 1 ≤ a ∧ a ≤ 12) (hb : 1 ≤ b ∧ b ≤ 12) (h : (moS a).toList = (moS b).toList) : a = b := by
  have key : ∀ i < 12, ∀ j < 12, moS (i + 1) = moS (j + 1) → i = j := by decide
  have h' : moS a = moS b := by
    have e : ∀ x : ByteArray, x = ⟨x.toList.toArray⟩ := fun x => by rw [ByteArray.toList_eq]
    rw [e (moS a), e (moS b), h]
  have := key (a - 1) (by omega) (b - 1) (by omega) (by rw [show a - 1 + 1 = a by omega, show b - 1 + 1 = b by omega]; exact h')
  omega
theorem MF_moA {t : ByteArray} {r : Nat} (h : MF t r) : (r ≤ 12 ∧ moA t 12 = r) ∨ (r = 13 ∧ moA t 12 = 0) := by
  obtain ⟨h1, h2, h3, h4⟩ := h
  have hle := moA_le t 12
  by_cases hr : r < 13
  · left
    have e := eq_of_beq (h4 hr)
    have hp := moA_pos t 12 r h1 (by omega) e.symm
    have hh := moA_hit t 12 hp
    exact ⟨by omega, (moS_inj ⟨by omega, by omega⟩ ⟨by omega, hle⟩ (e.trans hh)).symm⟩
  · right
    refine ⟨by omega, ?_⟩
    by_cases hz : moA t 12 = 0
    · exact hz
    · have hh := moA_hit t 12 (by omega)
      have := h3 (moA t 12) (by omega) (by omega)
      rw [hh, beq_self_eq_true] at this
      exact absurd this (by decide)
theorem num2_list {s : ByteArray} {a b : UInt8} (h : s.data.toList = [a, b]) : num2 s = if dgB a && dgB b then 10 * ((a.toNat : Int) - 48) + ((b.toNat : Int) - 48) else -1 := by
  have : s = ⟨#[a, b]⟩ := by
    cases s with | mk d => cases d with | mk l => simp only at h; subst h; rfl
  subst this
  rfl
theorem numS_2 {s : ByteArray} (h : s.size = 2) : numS s = num2 s := by
  obtain ⟨a, b, hl⟩ : ∃ a b, s.data.toList = [a, b] := by
    have : s.data.toList.length = 2 := by simpa using h
    match s.data.toList, this with
    | [a, b], _ => exact ⟨a, b, rfl⟩
  rw [num2_list hl]
  unfold numS
  rw [hl]
  simp only [List.any_cons, List.any_nil, Bool.or_false, ndg, numF]
  cases dgB a <;> cases dgB b <;> simp
theorem dig2_bd {a b : UInt8} (h : (dgB a && dgB b) = true) : 0 ≤ 10 * ((a.toNat : Int) - 48) + ((b.toNat : Int) - 48) := by
  rw [Bool.and_eq_true] at h
  have := dgB_bd h.1
  have := dgB_bd h.2
  omega
theorem numS_4 {s t u v : ByteArray} (h : s.size = 4) (ht : t.data.toList = s.data.toList) (hu : u.data.toList = s.data.toList.take 2) (hv : v.data.toList = s.data.toList.drop 2) :
    (numS t = -1 ∧ (num2 u < 0 ∨ num2 v < 0)) ∨ (numS t = 100 * num2 u + num2 v ∧ 0 ≤ num2 u ∧ 0 ≤ num2 v) := by
  obtain ⟨a, b, c, d, hl⟩ : ∃ a b c d, s.data.toList = [a, b, c, d] := by
    have : s.data.toList.length = 4 := by simpa using h
    match s.data.toList, this with
    | [a, b, c, d], _ => exact ⟨a, b, c, d, rfl⟩
  rw [hl] at ht hu hv
  have hu : u.data.toList = [a, b] := hu
  have hv : v.data.toList = [c, d] := hv
  rw [num2_list hu, num2_list hv]
  unfold numS
  rw [ht]
  cases h1 : (dgB a && dgB b)
  · left
    refine ⟨?_, Or.inl (by rw [if_neg (by decide)]; decide)⟩
    rw [if_pos]
    simp only [List.any_cons, List.any_nil, Bool.or_false, ndg]
    revert h1
    cases dgB a <;> cases dgB b <;> simp
  · cases h2 : (dgB c && dgB d)
    · left
      refine ⟨?_, Or.inr (by rw [if_neg (by decide)]; decide)⟩
      rw [if_pos]
      simp only [List.any_cons, List.any_nil, Bool.or_false, ndg]
      revert h2
      cases dgB c <;> cases dgB d <;> simp
    · right
      refine ⟨?_, dig2_bd h1, dig2_bd h2⟩
      rw [Bool.and_eq_true] at h1 h2
      rw [if_neg (by simp only [List.any_cons, List.any_nil, Bool.or_false, ndg]; rw [h1.1, h1.2, h2.1, h2.2]; decide), if_pos rfl, if_pos rfl]
      unfold numF numF numF numF numF
      omega
theorem ext_listR (s : ByteArray) (i j : Nat) : (s.extract i j).data.toList = (s.data.toList.take j).drop i := by
  rw [ByteArray.data_extract, Array.toList_extract, List.extract_eq_drop_take']

/-- What the reference makes of the parts. -/
def dateW (s : ByteArray) (y d h mi se : Int) (m : Nat) : Option Int :=
  if okD y m d ∧ ¬ (h < 0 ∨ 23 < h ∨ mi < 0 ∨ 59 < mi ∨ se < 0 ∨ 59 < se) then (if ((fmtS (secN y m d h mi se)).toList == s.toList) then some (secN y m d h mi se) else none) else none
theorem dateP_ref {s : ByteArray} (h29 : s.size = 29) {r : Nat} (hr : MF (s.extract 8 11) r) :
    dateP s = dateW s (numS (s.extract 12 16)) (numS (s.extract 5 7)) (numS (s.extract 17 19)) (numS (s.extract 20 22)) (numS (s.extract 23 25)) r := by
  have hsz : ∀ i j, (s.extract i j).size = min j 29 - i := fun i j => by rw [ByteArray.size_extract, h29]
  rw [numS_2 (hsz 5 7), numS_2 (hsz 17 19), numS_2 (hsz 20 22), numS_2 (hsz 23 25)]
  have hl : s.data.toList.length = 29 := by simpa using h29
  have h4 := numS_4 (s := s.extract 12 16) (t := s.extract 12 16) (u := s.extract 12 14) (v := s.extract 14 16) (hsz 12 16) rfl
    (by rw [ext_listR, ext_listR, List.take_drop, List.take_take]; rfl)
    (by rw [ext_listR, ext_listR, List.drop_drop])
  unfold dateP
  rw [if_pos h29]
  generalize num2 (s.extract 5 7) = d at *
  generalize num2 (s.extract 12 14) = c at *
  generalize num2 (s.extract 14 16) = y at *
  generalize num2 (s.extract 17 19) = h at *
  generalize num2 (s.extract 20 22) = mi at *
  generalize num2 (s.extract 23 25) = se at *
  generalize numS (s.extract 12 16) = y4 at *
  have hm := MF_moA hr
  generalize moA (s.extract 8 11) 12 = m at *
  unfold dateQ dateW
  rcases h4 with ⟨e1, e2⟩ | ⟨e1, e2, e3⟩
  · rw [if_pos (by omega), if_neg]
    rintro ⟨hk, -⟩
    have := hk.1
    omega
  · rw [← e1]
    rcases hm with ⟨m1, m2⟩ | ⟨m1, m2⟩
    · rw [m2]
      by_cases hk : okD y4 r d
      · have hd : 1 ≤ d := hk.2.2.2.2.1
        rw [if_pos hk]
        by_cases hb : h < 0 ∨ 23 < h ∨ mi < 0 ∨ 59 < mi ∨ se < 0 ∨ 59 < se
        · rw [if_pos (by omega)]
          exact (if_neg (fun e => e.2 hb)).symm
        · rw [if_neg (by omega)]
          exact (if_pos ⟨hk, hb⟩).symm
      · rw [if_neg hk, ite_self]
        exact (if_neg (fun e => hk e.1)).symm
    · have n1 : ¬ okD y4 m d := fun e => by have := e.2.2.1; omega
      have n2 : ¬ okD y4 r d := fun e => by have := e.2.2.2.1; omega
      rw [if_neg n1, ite_self]
      exact (if_neg (fun e => n2 e.1)).symm
theorem numS_bd {s : ByteArray} (h : s.size ≤ 4) : -1 ≤ numS s ∧ numS s ≤ 9999 := by
  unfold numS
  split
  · omega
  · rename_i hn
    have hb := numF_bd s.data.toList 0 (by omega) (by simpa using hn)
    have hl : s.data.toList.length = s.size := by simp
    rw [hl] at hb
    have : s.size = 0 ∨ s.size = 1 ∨ s.size = 2 ∨ s.size = 3 ∨ s.size = 4 := by omega
    rcases this with h | h | h | h | h <;> rw [h] at hb <;> simp at hb <;> omega
theorem dateW_bad {s : ByteArray} {y d h mi se : Int} {m : Nat} (hb : h < 0 ∨ 23 < h ∨ mi < 0 ∨ 59 < mi ∨ se < 0 ∨ 59 < se) : dateW s y d h mi se m = none := if_neg (fun e => e.2 hb)
theorem dateW_day {s : ByteArray} {y d h mi se : Int} {m : Nat} (hb : ¬ okD y m d) : dateW s y d h mi se m = none := if_neg (fun e => hb e.1)
theorem dateW_ok {s : ByteArray} {y d h mi se : Int} {m : Nat} (hk : okD y m d) (hb : ¬ (h < 0 ∨ 23 < h ∨ mi < 0 ∨ 59 < mi ∨ se < 0 ∨ 59 < se)) : dateW s y d h mi se m = if ((fmtS (secN y m d h mi se)).toList == s.toList) then some (secN y m d h mi se) else none := if_pos ⟨hk, hb⟩
/-- What the reference's Parse returns: a number that counts only beside true. -/
def Pd2 (o : Option Int) (e : Ending) : Prop := ∃ n : Int, e = .returned (.tuple #[.int .i64 n, .bool o.isSome]) ∧ ∀ k, o = some k → n = k
theorem Pd2.no {o : Option Int} (h : o = none) {n : Int} {b : Bool} (hb : b = false) : Pd2 o (.returned (.tuple #[.int .i64 n, .bool b])) := by
  subst h; subst hb; exact ⟨n, rfl, fun k e => by cases e⟩
theorem Pd2.yes {o : Option Int} {n : Int} {b : Bool} (h : o = if b then some n else none) : Pd2 o (.returned (.tuple #[.int .i64 n, .bool b])) := by
  subst h
  refine ⟨n, by cases b <;> rfl, fun k e => ?_⟩
  cases b
  · cases e
  · injection e
set_option maxHeartbeats 4000000 in
set_option maxRecDepth 100000 in
theorem rd_Parse (s : ByteArray) (w : World) (_hs : s.size ≤ 140737488351232) :
    Calls Tryz.prog 28 #[.string s] w fun e w' => Pd2 (dateP s) e ∧ Ext w w' := by
  by_cases h29 : s.size = 29
  rotate_left
  · have Hn := Lib.hid (show dateP s = none from if_neg h29)
    have hz : ((s.size : Int) == 29) = false := by rw [beq_eq_false_iff_ne]; omega
    go_enter Tryz.func28, Tryz.ntmps28
    go_wp2_with fail
    all_goals (go_ret2; exact ⟨Pd2.no Hn.out rfl, Ext.refl _⟩)
  have HR := Lib.hid (fun r => dateP_ref h29 (r := r))
  obtain ⟨O, hO⟩ : ∃ O, dateP s = O := ⟨_, rfl⟩
  rw [hO]
  rw [hO] at HR; clear hO
  have hsz : ∀ i j, (s.extract i j).size = min j 29 - i := fun i j => by rw [ByteArray.size_extract, h29]
  obtain ⟨T1, hx1⟩ : ∃ T, s.extract 5 7 = T := ⟨_, rfl⟩
  obtain ⟨T2, hx2⟩ : ∃ T, s.extract 12 16 = T := ⟨_, rfl⟩
  obtain ⟨T4, hx4⟩ : ∃ T, s.extract 17 19 = T := ⟨_, rfl⟩
  obtain ⟨T5, hx5⟩ : ∃ T, s.extract 20 22 = T := ⟨_, rfl⟩
  obtain ⟨T6, hx6⟩ : ∃ T, s.extract 23 25 = T := ⟨_, rfl⟩
  obtain ⟨T7, hx7⟩ : ∃ T, s.extract 8 11 = T := ⟨_, rfl⟩
  have e1 : T1.size ≤ 4 := by rw [← hx1, hsz]; decide
  have e2 : T2.size ≤ 4 := by rw [← hx2, hsz]; decide
  have e4 : T4.size ≤ 4 := by rw [← hx4, hsz]; decide
  have e5 : T5.size ≤ 4 := by rw [← hx5, hsz]; decide
  have e6 : T6.size ≤ 4 := by rw [← hx6, hsz]; decide
  rw [hx1, hx2, hx4, hx5, hx6, hx7] at HR
  have N1 := Lib.hid (fun w => rd_number T1 w e1)
  have N2 := Lib.hid (fun w => rd_number T2 w e2)
  have N4 := Lib.hid (fun w => rd_number T4 w e4)
  have N5 := Lib.hid (fun w => rd_number T5 w e5)
  have N6 := Lib.hid (fun w => rd_number T6 w e6)
  have B1 : -1 ≤ numS T1 ∧ numS T1 ≤ 99 := by
    rw [numS_2 (by rw [← hx1, hsz]; decide)]; exact num2_bd T1
  have B2 := numS_bd e2
  have B4 : -1 ≤ numS T4 ∧ numS T4 ≤ 99 := by
    rw [numS_2 (by rw [← hx4, hsz]; decide)]; exact num2_bd T4
  have B5 : -1 ≤ numS T5 ∧ numS T5 ≤ 99 := by
    rw [numS_2 (by rw [← hx5, hsz]; decide)]; exact num2_bd T5
  have B6 : -1 ≤ numS T6 ∧ numS T6 ≤ 99 := by
    rw [numS_2 (by rw [← hx6, hsz]; decide)]; exact num2_bd T6
  clear hsz e1 e2 e4 e5 e6
  generalize numS T1 = d at *
  generalize numS T2 = y at *
  generalize numS T4 = h at *
  generalize numS T5 = mi at *
  generalize numS T6 = se at *
  go_enter Tryz.func28, Tryz.ntmps28
  go_wp2_with fail
  go_loopw [4] (fun m wr => ∃ k : Nat, 1 ≤ k ∧ k ≤ 13 ∧ m = .int .i64 (k : Nat) ∧ (∀ j, 1 ≤ j → j < k → ((moS j).toList == T7.toList) = false) ∧ Ext w wr) (fun m _ => 13 - (intOf m).toNat)
  case atStart => exact ⟨1, by omega, by omega, rfl, fun j h1 h2 => by omega, Ext.refl _⟩
  case round =>
    obtain ⟨k, hk1, hk, rfl, hall, hE⟩ := hrel
    have Hall := Lib.hid hall; clear hall
    by_cases hlt : k < 13
    · have hxm := moT_at hk1 (by omega)
      have Hst := Lib.hid (show ((moS k).toList == T7.toList) = false → ∀ j, 1 ≤ j → j < k + 1 → ((moS j).toList == T7.toList) = false from fun he j h1 h2 => by
        by_cases hj : j = k
        · rw [hj]; exact he
        · exact Hall.out j h1 (by omega))
      have Hmf := Lib.hid (show ((moS k).toList == T7.toList) = true → MF T7 k from fun he => ⟨hk1, hk, Hall.out, fun _ => he⟩)
      unfold moT at hxm
      generalize moS k = t at *
      have p3 : IntKind.i64.wrap (3 * (k : Int)) = 3 * (k : Int) := IntWalk.i64_in _ (by omega)
      have p4 : IntKind.i64.wrap (3 * (k : Int) - 3) = 3 * (k : Int) - 3 := IntWalk.i64_in _ (by omega)
      have o5 : (0 : Int) ≤ 3 * (k : Int) - 3 := by omega
      have o6 : (0 : Int) ≤ 3 * (k : Int) := by omega
      have o7 : 3 * (k : Int) - 3 ≤ 3 * (k : Int) := by omega
      have o8 : 3 * (k : Int) ≤ 36 := by omega
      have hlt' : (k : Int) < 13 := by omega
      cases he : (t.toList == T7.toList)
      · have Hst := Lib.hid (Hst.out he)
        go_wp2_with fail
        go_region
        all_goals (try go_wp2_with fail)
        all_goals
          go_roundw
          case rel => exact ⟨k + 1, by omega, by omega, by go_num, Hst.out, hE.drew⟩
          case measure => simp [intOf]; omega
      · have HR := Lib.hid (HR.out k (Hmf.out he))
        have hE := hE.drew
        go_wp2_with fail
        go_region
        have hdy := fun w => rd_Day y k d w (by omega) (by omega) (by omega) (by omega) (by omega)
        by_cases hok : okD y k d
        rotate_left
        · have Hn := Lib.hid (HR.out.trans (dateW_day hok))
          simp only [day2V_no hok] at hdy
          have Hd := Lib.hid hdy; clear hdy hok
          go_wp2_with fail
          have hE := hE.drew
          go_region_held3 (fun _ => True) (trivial)
            (first
              | (go_at_call_of 42 T2; refine (N2.out _).mono ?_; rintro e w2 ⟨rfl, rfl⟩)
              | (go_at_call_of 42 T1; refine (N1.out _).mono ?_; rintro e w2 ⟨rfl, rfl⟩)
              | (go_at_call 41; refine (Hd.out _).mono ?_; rintro e w2 ⟨rfl, rfl⟩))
          go_wp2_with fail
          have hE := hE.drew
          go_region_held3 (fun _ => True) (trivial)
            (first
              | (go_at_call_of 42 T4; refine (N4.out _).mono ?_; rintro e w2 ⟨rfl, rfl⟩)
              | (go_at_call_of 42 T5; refine (N5.out _).mono ?_; rintro e w2 ⟨rfl, rfl⟩)
              | (go_at_call_of 42 T6; refine (N6.out _).mono ?_; rintro e w2 ⟨rfl, rfl⟩))
          go_wp2_with fail
          all_goals (go_ret2; exact ⟨Pd2.no Hn.out rfl, hE⟩)
        simp only [day2V_yes hok] at hdy
        have Hd := Lib.hid hdy; clear hdy
        obtain ⟨e0, e1⟩ := day_bd hok
        have Hok := Lib.hid hok; clear hok
        have Hsec := Lib.hid (show secN y k d h mi se = 86400 * dayN y k d + 3600 * h + 60 * mi + se from rfl)
        generalize dayN y k d = D at *
        go_wp2_with fail
        have hE := hE.drew
        go_region_held3 (fun _ => True) (trivial)
          (first
            | (go_at_call_of 42 T2; refine (N2.out _).mono ?_; rintro e w2 ⟨rfl, rfl⟩)
            | (go_at_call_of 42 T1; refine (N1.out _).mono ?_; rintro e w2 ⟨rfl, rfl⟩)
            | (go_at_call 41; refine (Hd.out _).mono ?_; rintro e w2 ⟨rfl, rfl⟩))
        go_wp2_with fail
        have hE := hE.drew
        go_region_held3 (fun _ => True) (trivial)
          (first
            | (go_at_call_of 42 T4; refine (N4.out _).mono ?_; rintro e w2 ⟨rfl, rfl⟩)
            | (go_at_call_of 42 T5; refine (N5.out _).mono ?_; rintro e w2 ⟨rfl, rfl⟩)
            | (go_at_call_of 42 T6; refine (N6.out _).mono ?_; rintro e w2 ⟨rfl, rfl⟩))
        by_cases a0 : h < 0
        · have Hn := Lib.hid (HR.out.trans (dateW_bad (by omega)))
          go_wp2_with fail
          all_goals (go_ret2; exact ⟨Pd2.no Hn.out rfl, hE⟩)
        by_cases a1 : 23 < h
        · have Hn := Lib.hid (HR.out.trans (dateW_bad (by omega)))
          go_wp2_with fail
          all_goals (go_ret2; exact ⟨Pd2.no Hn.out rfl, hE⟩)
        by_cases a2 : mi < 0
        · have Hn := Lib.hid (HR.out.trans (dateW_bad (by omega)))
          go_wp2_with fail
          all_goals (go_ret2; exact ⟨Pd2.no Hn.out rfl, hE⟩)
        by_cases a3 : 59 < mi
        · have Hn := Lib.hid (HR.out.trans (dateW_bad (by omega)))
          go_wp2_with fail
          all_goals (go_ret2; exact ⟨Pd2.no Hn.out rfl, hE⟩)
        by_cases a4 : se < 0
        · have Hn := Lib.hid (HR.out.trans (dateW_bad (by omega)))
          go_wp2_with fail
          all_goals (go_ret2; exact ⟨Pd2.no Hn.out rfl, hE⟩)
        by_cases a5 : 59 < se
        · have Hn := Lib.hid (HR.out.trans (dateW_bad (by omega)))
          go_wp2_with fail
          all_goals (go_ret2; exact ⟨Pd2.no Hn.out rfl, hE⟩)
        have Hn := Lib.hid (HR.out.trans (dateW_ok Hok.out (by omega)))
        rw [Hsec.out] at Hn
        have hfm := Lib.hid (fun w => rd_Format (86400 * D + 3600 * h + 60 * mi + se) w (by omega) (by omega))
        cases hq : ((fmtS (86400 * D + 3600 * h + 60 * mi + se)).toList == s.toList)
        all_goals
          rw [hq] at Hn
          go_wp2_with fail
          refine (hfm.out _).mono ?_; rintro e w4 ⟨rfl, hb4⟩
          go_wp2_with fail
          all_goals (go_ret2; exact ⟨Pd2.yes Hn.out, hE.trans hb4⟩)
    · obtain rfl : k = 13 := by omega
      have HR := Lib.hid (HR.out 13 ⟨by omega, by omega, Hall.out, fun e => absurd e (by decide)⟩)
      have hE := hE.drew
      go_wp2_with fail
      go_region
      have Hn := Lib.hid (HR.out.trans (dateW_day (fun e => by have := e.2.2.2.1; omega)))
      have hdy := fun w => rd_Day y 13 d w (by omega) (by omega) (by omega) (by omega) (by omega)
      simp only [day2V_no (fun e : okD y 13 d => by have := e.2.2.2.1; omega)] at hdy
      have Hd := Lib.hid hdy; clear hdy
      go_wp2_with fail
      have hE := hE.drew
      go_region_held3 (fun _ => True) (trivial)
        (first
          | (go_at_call_of 42 T2; refine (N2.out _).mono ?_; rintro e w2 ⟨rfl, rfl⟩)
          | (go_at_call_of 42 T1; refine (N1.out _).mono ?_; rintro e w2 ⟨rfl, rfl⟩)
          | (go_at_call 41; refine (Hd.out _).mono ?_; rintro e w2 ⟨rfl, rfl⟩))
      go_wp2_with fail
      have hE := hE.drew
      go_region_held3 (fun _ => True) (trivial)
        (first
          | (go_at_call_of 42 T4; refine (N4.out _).mono ?_; rintro e w2 ⟨rfl, rfl⟩)
          | (go_at_call_of 42 T5; refine (N5.out _).mono ?_; rintro e w2 ⟨rfl, rfl⟩)
          | (go_at_call_of 42 T6; refine (N6.out _).mono ?_; rintro e w2 ⟨rfl, rfl⟩))
      go_wp2_with fail
      all_goals (go_ret2; exact ⟨Pd2.no Hn.out rfl, hE⟩)
end Go.Proofs.YtjacgdjnocpodaaGreatDoor
