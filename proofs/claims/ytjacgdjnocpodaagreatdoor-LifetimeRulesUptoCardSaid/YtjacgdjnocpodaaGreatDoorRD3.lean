
/- The walks of the package quaysideref04: Format, Parse. -/
import Derived.Test.YtjacgdjnocpodaaGreatDoorRD2
namespace Go.Proofs.YtjacgdjnocpodaaGreatDoor
open Go.RowKit

def wdT : ByteArray := ⟨#[83, 117, 110, 77, 111, 110, 84, 117, 101, 87, 101, 100, 84, 104, 117, 70, 114, 105, 83, 97, 116]⟩
def moT : ByteArray := ⟨#[74, 97, 110, 70, 101, 98, 77, 97, 114, 65, 112, 114, 77, 97, 121, 74, 117, 110, 74, 117, 108, 65, 117, 103, 83, 101, 112, 79, 99, 116, 78, 111, 118, 68, 101, 99]⟩
theorem wdT_at (d : Int) : wdT.extract (3 * wkN d).toNat (3 * wkN d + 3).toNat = wdS d := by
  have hb := wkN_bd d
  unfold wdS
  generalize wkN d = k at *
  have : k = 0 ∨ k = 1 ∨ k = 2 ∨ k = 3 ∨ k = 4 ∨ k = 5 ∨ k = 6 := by omega
  rcases this with h | h | h | h | h | h | h <;> subst h <;> decide
theorem moT_at {m : Nat} (h1 : 1 ≤ m) (h2 : m ≤ 12) : moT.extract (3 * (m : Int) - 3).toNat (3 * (m : Int)).toNat = moS m := by
  have : m = 1 ∨ m = 2 ∨ m = 3 ∨ m = 4 ∨ m = 5 ∨ m = 6 ∨ m = 7 ∨ m = 8 ∨ m = 9 ∨ m = 10 ∨ m = 11 ∨ m = 12 := by omega
  rcases this with h | h | h | h | h | h | h | h | h | h | h | h <;> subst h <;> decide
theorem dig_at (n m : Int) (w : World) (h : n = m) (h0 : 0 ≤ m) (h1 : m ≤ 99) :
    Calls Tryz.prog 64 #[.int .i64 n, .int .i64 2] w fun e w' => e = .returned (.string (twoS m)) ∧ Ext w w' := by
  subst h
  have := rd_digits n 2 w h0 (by omega) (by decide)
  rwa [ouK_2 h0 h1] at this

set_option maxHeartbeats 4000000 in
set_option maxRecDepth 100000 in
theorem rd_Format (n : Int) (w : World) (h0 : 0 ≤ n) (h1 : n ≤ 253402300799) :
    Calls Tryz.prog 43 #[.int .i64 n] w fun e w' => e = .returned (.string (fmtS n)) ∧ Ext w w' := by
  have hd0 : 0 ≤ n / 86400 := by omega
  have hd1 : n / 86400 ≤ 2932896 := by omega
  obtain ⟨⟨y0, y1, m0, m1, c0, c1⟩, -⟩ := date_ok hd0 hd1
  have hml := ml_bd (yOf (n / 86400)) (mOf (n / 86400))
  have hwk := wkN_bd (n / 86400)
  have hxw := wdT_at (n / 86400)
  have hxm := moT_at m0 m1
  have hy4 := fun w => rd_digits (yOf (n / 86400)) 4 w (by omega) (by omega) (by decide)
  rw [ouK_4 (by omega) (by omega)] at hy4
  obtain ⟨F, hF⟩ : ∃ F, fmtS n = F := ⟨_, rfl⟩
  rw [hF]
  unfold fmtS catS at hF
  have hws : (wdS (n / 86400)).size = 3 := wdS_size
  have hms := moS_size m0 m1
  have hDate := rd_Date (n / 86400) w hd0 hd1
  have hWk := rd_Weekday (n / 86400)
  unfold date3V at hDate
  generalize hdd : n / 86400 = dd at *
  generalize hrr : n % 86400 = rr at *
  have hr0 : 0 ≤ rr := by omega
  have hr1 : rr < 86400 := by omega
  generalize mOf dd = mm at *
  generalize yOf dd = yy at *
  generalize dOf dd = ee at *
  generalize wdS dd = ws at *
  generalize moS mm = ms at *
  generalize wkN dd = wk at *
  have hf4 : (twoS (yy / 100) ++ twoS (yy % 100)).size = 4 := rfl
  have Hf := Lib.hid (show ws ++ ⟨#[44, 32]⟩ ++ twoS ee ++ ⟨#[32]⟩ ++ ms ++ ⟨#[32]⟩ ++ (twoS (yy / 100) ++ twoS (yy % 100)) ++ ⟨#[32]⟩ ++ (twoS (rr / 3600) ++ ⟨#[58]⟩ ++ twoS (rr / 60 % 60) ++ ⟨#[58]⟩ ++ twoS (rr % 60)) ++ ⟨#[32, 71, 77, 84]⟩ = F by
    rw [← hF]; simp only [ByteArray.append_assoc])
  clear hF
  generalize twoS (yy / 100) ++ twoS (yy % 100) = y4 at *
  obtain ⟨r1, x1⟩ := sum_s (twoS (rr / 3600)) ⟨#[58]⟩ (twoS_size _) rfl (by decide)
  obtain ⟨r2, x2⟩ := sum_s _ (twoS (rr / 60 % 60)) x1 (twoS_size _) (by decide)
  obtain ⟨r3, x3⟩ := sum_s _ ⟨#[58]⟩ x2 rfl (by decide)
  obtain ⟨r4, x4⟩ := sum_s _ (twoS (rr % 60)) x3 (twoS_size _) (by decide)
  obtain ⟨s1, z1⟩ := sum_s ws ⟨#[44, 32]⟩ hws rfl (by decide)
  obtain ⟨s2, z2⟩ := sum_s _ (twoS ee) z1 (twoS_size _) (by decide)
  obtain ⟨s3, z3⟩ := sum_s _ ⟨#[32]⟩ z2 rfl (by decide)
  obtain ⟨s4, z4⟩ := sum_s _ ms z3 hms (by decide)
  obtain ⟨s5, z5⟩ := sum_s _ ⟨#[32]⟩ z4 rfl (by decide)
  obtain ⟨s6, z6⟩ := sum_s _ y4 z5 hf4 (by decide)
  obtain ⟨s7, z7⟩ := sum_s _ ⟨#[32]⟩ z6 rfl (by decide)
  obtain ⟨s8, z8⟩ := sum_s _ _ z7 x4 (by decide)
  obtain ⟨s9, z9⟩ := sum_s _ ⟨#[32, 71, 77, 84]⟩ z8 rfl (by decide)
  clear x1 x2 x3 x4 z1 z2 z3 z4 z5 z6 z7 z8 z9
  have Hw := Lib.hid hWk; clear hWk
  have HD := Lib.hid hDate; clear hDate
  have HY := Lib.hid hy4; clear hy4
  have q3 : rr.tdiv 3600 = rr / 3600 := Int.tdiv_eq_ediv_of_nonneg (by omega)
  have q4 : rr.tdiv 60 = rr / 60 := Int.tdiv_eq_ediv_of_nonneg (by omega)
  have q5 : (rr / 60).tmod 60 = rr / 60 % 60 := Int.tmod_eq_emod_of_nonneg (by omega)
  have q6 : rr.tmod 60 = rr % 60 := Int.tmod_eq_emod_of_nonneg (by omega)
  have k3 : IntKind.i64.wrap (rr / 3600) = rr / 3600 := IntWalk.i64_in _ (by omega)
  have k4 : IntKind.i64.wrap (rr / 60) = rr / 60 := IntWalk.i64_in _ (by omega)
  have b3 : 0 ≤ rr / 3600 ∧ rr / 3600 ≤ 99 := by omega
  have b4 : 0 ≤ rr / 60 % 60 ∧ rr / 60 % 60 ≤ 99 := by omega
  have b5 : 0 ≤ rr % 60 ∧ rr % 60 ≤ 99 := by omega
  have b0 : 0 ≤ ee ∧ ee ≤ 99 := by omega
  go_enter Tryz.func43, Tryz.ntmps43
  go_wp2_with fail
  refine HD.out.mono ?_; rintro e w1 ⟨rfl, rfl⟩
  go_wp2_with fail
  refine (Hw.out _ hd0 (by omega)).mono ?_; rintro e w2 ⟨rfl, rfl⟩
  go_wp2_with fail
  refine (dig_at _ (rr / 3600) _ (by first | rfl | exact k3 | exact q3 | (rw [q3]; exact k3)) b3.1 b3.2).mono ?_; rintro e w3 ⟨rfl, hb3⟩
  go_wp2_with fail
  refine (dig_at _ (rr / 60 % 60) _ (by first | rfl | (rw [k4]; exact q5) | exact q5) b4.1 b4.2).mono ?_; rintro e w4 ⟨rfl, hb4⟩
  go_wp2_with fail
  refine (dig_at _ (rr % 60) _ (by first | rfl | exact q6) b5.1 b5.2).mono ?_; rintro e w5 ⟨rfl, hb5⟩
  go_wp2_with fail
  have hE := ((hb3.trans hb4).trans hb5).drew
  have p1 : IntKind.i64.wrap (3 * wk) = 3 * wk := IntWalk.i64_in _ (by omega)
  have p2 : IntKind.i64.wrap (3 * wk + 3) = 3 * wk + 3 := IntWalk.i64_in _ (by omega)
  have p3 : IntKind.i64.wrap (3 * (mm : Int)) = 3 * (mm : Int) := IntWalk.i64_in _ (by omega)
  have p4 : IntKind.i64.wrap (3 * (mm : Int) - 3) = 3 * (mm : Int) - 3 := IntWalk.i64_in _ (by omega)
  have o1 : (0 : Int) ≤ 3 * wk := by omega
  have o2 : (0 : Int) ≤ 3 * wk + 3 := by omega
  have o3 : 3 * wk ≤ 3 * wk + 3 := by omega
  have o4 : 3 * wk + 3 ≤ 21 := by omega
  have o5 : (0 : Int) ≤ 3 * (mm : Int) - 3 := by omega
  have o6 : (0 : Int) ≤ 3 * (mm : Int) := by omega
  have o7 : 3 * (mm : Int) - 3 ≤ 3 * (mm : Int) := by omega
  have o8 : 3 * (mm : Int) ≤ 36 := by omega
  unfold wdT at hxw
  unfold moT at hxm
  have o9 : (3 : Int) ≤ 3 * (mm : Int) := by omega
  have o10 : (1 : Int) ≤ (mm : Int) := by omega
  have o11 : (mm : Int) ≤ 12 := by omega
  refine wp_region_held_drew (S := (fun _ => True)) (by kernel_rfl) ?_ (fun hHeld => ?_)
  · (try dsimp only); (try trivial)
  refine wpAnyH_take (i := 0) (oi := { dst := some 36, op := _, type := _, pos := _, after := _, guard := _ }) (v := ?_) rfl (by kernel_rfl) (by kernel_rfl) (by kernel_rfl) (fun _ _ _ h => h) (Or.inl ⟨by rfl, ?_⟩) (by assumption) ?_
  rotate_left
  · (intro w hSw; (try dsimp only at hSw); go_simp; (try with_reducible rfl))
  (try simp only [Act.put, List.setIfInBounds_toArray, List.set_cons_zero, List.set_cons_succ])
  refine wpAnyH_take (i := 1) (oi := { dst := some 37, op := _, type := _, pos := _, after := _, guard := _ }) (v := ?_) rfl (by kernel_rfl) (by kernel_rfl) (by kernel_rfl) (fun _ _ _ h => h) (Or.inl ⟨by rfl, ?_⟩) (by assumption) ?_
  rotate_left
  · (intro w hSw; (try dsimp only at hSw); go_simp; (try with_reducible rfl))
  (try simp only [Act.put, List.setIfInBounds_toArray, List.set_cons_zero, List.set_cons_succ])
  refine wpAnyH_take (i := 2) (oi := { dst := some 38, op := _, type := _, pos := _, after := _, guard := _ }) (v := ?_) rfl (by kernel_rfl) (by kernel_rfl) (by kernel_rfl) (fun _ _ _ h => h) (Or.inl ⟨by rfl, ?_⟩) (by assumption) ?_
  rotate_left
  · (intro w hSw; (try dsimp only at hSw); go_simp; (try with_reducible rfl))
  (try simp only [Act.put, List.setIfInBounds_toArray, List.set_cons_zero, List.set_cons_succ])
  refine wpAnyH_take (i := 3) (oi := { dst := some 39, op := _, type := _, pos := _, after := _, guard := _ }) (v := ?_) rfl (by kernel_rfl) (by kernel_rfl) (by kernel_rfl) (fun _ _ _ h => h) (Or.inl ⟨by rfl, ?_⟩) (by assumption) ?_
  rotate_left
  · (intro w hSw; (try dsimp only at hSw); go_simp; (try with_reducible rfl))
  (try simp only [Act.put, List.setIfInBounds_toArray, List.set_cons_zero, List.set_cons_succ])
  refine wpAnyH_take (i := 4) (oi := { dst := some 40, op := _, type := _, pos := _, after := _, guard := _ }) (v := ?_) rfl (by kernel_rfl) (by kernel_rfl) (by kernel_rfl) (fun _ _ _ h => h) (Or.inl ⟨by rfl, ?_⟩) (by assumption) ?_
  rotate_left
  · (intro w hSw; (try dsimp only at hSw); go_simp; (try with_reducible rfl))
  (try simp only [Act.put, List.setIfInBounds_toArray, List.set_cons_zero, List.set_cons_succ])
  refine wpAnyH_take (i := 5) (oi := { dst := some 41, op := _, type := _, pos := _, after := _, guard := _ }) (v := ?_) rfl (by kernel_rfl) (by kernel_rfl) (by kernel_rfl) (fun _ _ _ h => h) (Or.inl ⟨by rfl, ?_⟩) (by assumption) ?_
  rotate_left
  · (intro w hSw; (try dsimp only at hSw); go_simp; (try with_reducible rfl))
  (try simp only [Act.put, List.setIfInBounds_toArray, List.set_cons_zero, List.set_cons_succ])
  refine wpAnyH_take (i := 6) (oi := { dst := some 42, op := _, type := _, pos := _, after := _, guard := _ }) (v := ?_) rfl (by kernel_rfl) (by kernel_rfl) (by kernel_rfl) (fun _ _ _ h => h) (Or.inl ⟨by rfl, ?_⟩) (by assumption) ?_
  rotate_left
  · (intro w hSw; (try dsimp only at hSw); go_simp; (try with_reducible rfl))
  (try simp only [Act.put, List.setIfInBounds_toArray, List.set_cons_zero, List.set_cons_succ])
  refine wpAnyH_take (i := 7) (oi := { dst := some 43, op := _, type := _, pos := _, after := _, guard := _ }) (v := ?_) rfl (by kernel_rfl) (by kernel_rfl) (by kernel_rfl) (fun _ _ _ h => h) (Or.inl ⟨by rfl, ?_⟩) (by assumption) ?_
  rotate_left
  · (intro w hSw; (try dsimp only at hSw); go_simp; (try with_reducible rfl))
  (try simp only [Act.put, List.setIfInBounds_toArray, List.set_cons_zero, List.set_cons_succ])
  refine wpAnyH_take (i := 11) (oi := { dst := some 47, op := _, type := _, pos := _, after := _, guard := _ }) (v := ?_) rfl (by kernel_rfl) (by kernel_rfl) (by kernel_rfl) (fun _ _ _ h => h) (Or.inl ⟨by rfl, ?_⟩) (by assumption) ?_
  rotate_left
  · (intro w hSw; (try dsimp only at hSw); go_simp; (try with_reducible rfl))
  (try simp only [Act.put, List.setIfInBounds_toArray, List.set_cons_zero, List.set_cons_succ])
  refine wpAnyH_take (i := 12) (oi := { dst := some 48, op := _, type := _, pos := _, after := _, guard := _ }) (v := ?_) rfl (by kernel_rfl) (by kernel_rfl) (by kernel_rfl) (fun _ _ _ h => h) (Or.inl ⟨by rfl, ?_⟩) (by assumption) ?_
  rotate_left
  · (intro w hSw; (try dsimp only at hSw); go_simp; (try with_reducible rfl))
  (try simp only [Act.put, List.setIfInBounds_toArray, List.set_cons_zero, List.set_cons_succ])
  refine wpAnyH_take (i := 13) (oi := { dst := some 49, op := _, type := _, pos := _, after := _, guard := _ }) (v := ?_) rfl (by kernel_rfl) (by kernel_rfl) (by kernel_rfl) (fun _ _ _ h => h) (Or.inl ⟨by rfl, ?_⟩) (by assumption) ?_
  rotate_left
  · (intro w hSw; (try dsimp only at hSw); go_simp; (try with_reducible rfl))
  (try simp only [Act.put, List.setIfInBounds_toArray, List.set_cons_zero, List.set_cons_succ])
  refine wpAnyH_take (i := 14) (oi := { dst := some 50, op := _, type := _, pos := _, after := _, guard := _ }) (v := ?_) rfl (by kernel_rfl) (by kernel_rfl) (by kernel_rfl) (fun _ _ _ h => h) (Or.inl ⟨by rfl, ?_⟩) (by assumption) ?_
  rotate_left
  · (intro w hSw; (try dsimp only at hSw); go_simp; (try with_reducible rfl))
  (try simp only [Act.put, List.setIfInBounds_toArray, List.set_cons_zero, List.set_cons_succ])
  refine wpAnyH_take (i := 15) (oi := { dst := some 51, op := _, type := _, pos := _, after := _, guard := _ }) (v := ?_) rfl (by kernel_rfl) (by kernel_rfl) (by kernel_rfl) (fun _ _ _ h => h) (Or.inl ⟨by rfl, ?_⟩) (by assumption) ?_
  rotate_left
  · (intro w hSw; (try dsimp only at hSw); go_simp; (try with_reducible rfl))
  (try simp only [Act.put, List.setIfInBounds_toArray, List.set_cons_zero, List.set_cons_succ])
  refine wpAnyH_take (i := 16) (oi := { dst := some 52, op := _, type := _, pos := _, after := _, guard := _ }) (v := ?_) rfl (by kernel_rfl) (by kernel_rfl) (by kernel_rfl) (fun _ _ _ h => h) (Or.inl ⟨by rfl, ?_⟩) (by assumption) ?_
  rotate_left
  · (intro w hSw; (try dsimp only at hSw); go_simp; (try with_reducible rfl))
  (try simp only [Act.put, List.setIfInBounds_toArray, List.set_cons_zero, List.set_cons_succ])
  refine wpAnyH_take (i := 19) (oi := { dst := some 55, op := _, type := _, pos := _, after := _, guard := _ }) (v := ?_) rfl (by kernel_rfl) (by kernel_rfl) (by kernel_rfl) (fun _ _ _ h => h) (Or.inl ⟨by rfl, ?_⟩) (by assumption) ?_
  rotate_left
  · (intro w hSw; (try dsimp only at hSw); go_simp; (try with_reducible rfl))
  (try simp only [Act.put, List.setIfInBounds_toArray, List.set_cons_zero, List.set_cons_succ])
  refine wpAnyH_take (i := 23) (oi := { dst := some 59, op := _, type := _, pos := _, after := _, guard := _ }) (v := ?_) rfl (by kernel_rfl) (by kernel_rfl) (by kernel_rfl) (fun _ _ _ h => h) (Or.inl ⟨by rfl, ?_⟩) (by assumption) ?_
  rotate_left
  · (intro w hSw; (try dsimp only at hSw); go_simp; (try with_reducible rfl))
  (try simp only [Act.put, List.setIfInBounds_toArray, List.set_cons_zero, List.set_cons_succ])
  refine wpAnyH_ready (rs := [8]) (by kernel_rfl) (by simp) ?_
  refine AllReadyH.cons (o := { dst := some 44, op := _, type := _, pos := _, after := _, guard := _ }) rfl (fun K hK => ?_) AllReadyH.nil
  go_simp
  refine (dig_at _ (ee) _ (by rfl) b0.1 b0.2).mono ?_; rintro e w6 ⟨rfl, hb6⟩; replace hE := hE.trans hb6; clear hb6
  try go_wp2_with fail
  refine hK.out _ _ ?_ (fun hHeld => ?_)
  · (try dsimp only); (try trivial)
  clear hK K
  (try simp only [Act.put, List.setIfInBounds_toArray, List.set_cons_zero, List.set_cons_succ])
  refine wpAnyH_take (i := 9) (oi := { dst := some 45, op := _, type := _, pos := _, after := _, guard := _ }) (v := ?_) rfl (by kernel_rfl) (by kernel_rfl) (by kernel_rfl) (fun _ _ _ h => h) (Or.inl ⟨by rfl, ?_⟩) (by assumption) ?_
  rotate_left
  · (intro w hSw; (try dsimp only at hSw); go_simp; (try with_reducible rfl))
  (try simp only [Act.put, List.setIfInBounds_toArray, List.set_cons_zero, List.set_cons_succ])
  refine wpAnyH_take (i := 10) (oi := { dst := some 46, op := _, type := _, pos := _, after := _, guard := _ }) (v := ?_) rfl (by kernel_rfl) (by kernel_rfl) (by kernel_rfl) (fun _ _ _ h => h) (Or.inl ⟨by rfl, ?_⟩) (by assumption) ?_
  rotate_left
  · (intro w hSw; (try dsimp only at hSw); go_simp; (try with_reducible rfl))
  (try simp only [Act.put, List.setIfInBounds_toArray, List.set_cons_zero, List.set_cons_succ])
  refine wpAnyH_take (i := 17) (oi := { dst := some 53, op := _, type := _, pos := _, after := _, guard := _ }) (v := ?_) rfl (by kernel_rfl) (by kernel_rfl) (by kernel_rfl) (fun _ _ _ h => h) (Or.inl ⟨by rfl, ?_⟩) (by assumption) ?_
  rotate_left
  · (intro w hSw; (try dsimp only at hSw); go_simp; (try with_reducible rfl))
  (try simp only [Act.put, List.setIfInBounds_toArray, List.set_cons_zero, List.set_cons_succ])
  refine wpAnyH_take (i := 18) (oi := { dst := some 54, op := _, type := _, pos := _, after := _, guard := _ }) (v := ?_) rfl (by kernel_rfl) (by kernel_rfl) (by kernel_rfl) (fun _ _ _ h => h) (Or.inl ⟨by rfl, ?_⟩) (by assumption) ?_
  rotate_left
  · (intro w hSw; (try dsimp only at hSw); go_simp; (try with_reducible rfl))
  (try simp only [Act.put, List.setIfInBounds_toArray, List.set_cons_zero, List.set_cons_succ])
  refine wpAnyH_ready (rs := [20]) (by kernel_rfl) (by simp) ?_
  refine AllReadyH.cons (o := { dst := some 56, op := _, type := _, pos := _, after := _, guard := _ }) rfl (fun K hK => ?_) AllReadyH.nil
  go_simp
  refine (HY.out _).mono ?_; rintro e w7 ⟨rfl, hb7⟩; replace hE := hE.trans hb7; clear hb7
  try go_wp2_with fail
  refine hK.out _ _ ?_ (fun hHeld => ?_)
  · (try dsimp only); (try trivial)
  clear hK K
  (try simp only [Act.put, List.setIfInBounds_toArray, List.set_cons_zero, List.set_cons_succ])
  refine wpAnyH_take (i := 21) (oi := { dst := some 57, op := _, type := _, pos := _, after := _, guard := _ }) (v := ?_) rfl (by kernel_rfl) (by kernel_rfl) (by kernel_rfl) (fun _ _ _ h => h) (Or.inl ⟨by rfl, ?_⟩) (by assumption) ?_
  rotate_left
  · (intro w hSw; (try dsimp only at hSw); go_simp; (try with_reducible rfl))
  (try simp only [Act.put, List.setIfInBounds_toArray, List.set_cons_zero, List.set_cons_succ])
  refine wpAnyH_take (i := 22) (oi := { dst := some 58, op := _, type := _, pos := _, after := _, guard := _ }) (v := ?_) rfl (by kernel_rfl) (by kernel_rfl) (by kernel_rfl) (fun _ _ _ h => h) (Or.inl ⟨by rfl, ?_⟩) (by assumption) ?_
  rotate_left
  · (intro w hSw; (try dsimp only at hSw); go_simp; (try with_reducible rfl))
  (try simp only [Act.put, List.setIfInBounds_toArray, List.set_cons_zero, List.set_cons_succ])
  refine wpAnyH_take (i := 24) (oi := { dst := some 60, op := _, type := _, pos := _, after := _, guard := _ }) (v := ?_) rfl (by kernel_rfl) (by kernel_rfl) (by kernel_rfl) (fun _ _ _ h => h) (Or.inl ⟨by rfl, ?_⟩) (by assumption) ?_
  rotate_left
  · (intro w hSw; (try dsimp only at hSw); go_simp; (try with_reducible rfl))
  (try simp only [Act.put, List.setIfInBounds_toArray, List.set_cons_zero, List.set_cons_succ])
  refine wpAnyH_take (i := 25) (oi := { dst := some 61, op := _, type := _, pos := _, after := _, guard := _ }) (v := ?_) rfl (by kernel_rfl) (by kernel_rfl) (by kernel_rfl) (fun _ _ _ h => h) (Or.inl ⟨by rfl, ?_⟩) (by assumption) ?_
  rotate_left
  · (intro w hSw; (try dsimp only at hSw); go_simp; (try with_reducible rfl))
  (try simp only [Act.put, List.setIfInBounds_toArray, List.set_cons_zero, List.set_cons_succ])
  refine wpAnyH_take (i := 26) (oi := { dst := some 2, op := _, type := _, pos := _, after := _, guard := _ }) (v := ?_) rfl (by kernel_rfl) (by kernel_rfl) (by kernel_rfl) (fun _ _ _ h => h) (Or.inl ⟨by rfl, ?_⟩) (by assumption) ?_
  rotate_left
  · (intro w hSw; (try dsimp only at hSw); go_simp; (try with_reducible rfl))
  (try simp only [Act.put, List.setIfInBounds_toArray, List.set_cons_zero, List.set_cons_succ])
  refine wpAnyH_done (by kernel_rfl) ?_ _
  go_wp2_with fail
  go_ret
  exact ⟨ret_v (congrArg Value.string Hf.out), hE⟩
end Go.Proofs.YtjacgdjnocpodaaGreatDoor
