
/- The walk of httpdate.Format. -/
import Derived.Test.YtjacgdjnocpodaaGreatDoorDate2
import Derived.Deep.RegionHeld3
import Derived.IntWalk
namespace Go.Proofs.YtjacgdjnocpodaaGreatDoor
open Go.RowKit

/-- The text of a date out of its parts. -/
def catS (wd t1 mo t2 t3 t4 t5 t6 : ByteArray) : ByteArray :=
  wd ++ ⟨#[44, 32]⟩ ++ t1 ++ ⟨#[32]⟩ ++ mo ++ ⟨#[32]⟩ ++ t2 ++ t3 ++ ⟨#[32]⟩ ++ t4 ++ ⟨#[58]⟩ ++ t5 ++ ⟨#[58]⟩ ++ t6 ++ ⟨#[32, 71, 77, 84]⟩
def wdS (d : Int) : ByteArray := wdL.getD (wkN d).toNat ⟨#[]⟩
def moS (m : Nat) : ByteArray := moL.getD (m - 1) ⟨#[]⟩
def fmtS (n : Int) : ByteArray := catS (wdS (n / 86400)) (twoS (dOf (n / 86400))) (moS (mOf (n / 86400))) (twoS (yOf (n / 86400) / 100)) (twoS (yOf (n / 86400) % 100)) (twoS (n % 86400 / 3600)) (twoS (n % 86400 / 60 % 60)) (twoS (n % 86400 % 60))
theorem wdS_size {d : Int} : (wdS d).size = 3 := by
  have := wkN_bd d
  unfold wdS
  have h : (wkN d).toNat < 7 := by omega
  generalize (wkN d).toNat = k at *
  have : k = 0 ∨ k = 1 ∨ k = 2 ∨ k = 3 ∨ k = 4 ∨ k = 5 ∨ k = 6 := by omega
  rcases this with h | h | h | h | h | h | h <;> subst h <;> rfl
theorem moS_size {m : Nat} (h1 : 1 ≤ m) (h2 : m ≤ 12) : (moS m).size = 3 := by
  have : m = 1 ∨ m = 2 ∨ m = 3 ∨ m = 4 ∨ m = 5 ∨ m = 6 ∨ m = 7 ∨ m = 8 ∨ m = 9 ∨ m = 10 ∨ m = 11 ∨ m = 12 := by omega
  rcases this with h | h | h | h | h | h | h | h | h | h | h | h <;> subst h <;> rfl
theorem twoS_size (n : Int) : (twoS n).size = 2 := rfl
theorem GlH.monS {w : World} (h : GlH w) {m : Nat} (h1 : 1 ≤ m) (h2 : m ≤ 12) : w.cell? ⟨0, m - 1, none⟩ = some (.string (moS m)) := by
  have := h.mon (k := m - 1) (by omega)
  unfold moS
  rw [List.getD_eq_getElem?_getD, List.getElem?_eq_getElem (by show m - 1 < 12; omega)]
  exact this
theorem GlH.wkdS {w : World} (h : GlH w) (d : Int) : w.cell? ⟨1, (wkN d).toNat, none⟩ = some (.string (wdS d)) := by
  have hb := wkN_bd d
  have := h.wkd (k := (wkN d).toNat) (by omega)
  unfold wdS
  rw [List.getD_eq_getElem?_getD, List.getElem?_eq_getElem (by show (wkN d).toNat < 7; omega)]
  exact this
theorem two_at (n m : Int) (w : World) (h : n = m) (h0 : 0 ≤ m) (h1 : m ≤ 99) :
    Calls Tryz.prog 81 #[.int .i64 n] w fun e w' => e = .returned (.string (twoS m)) ∧ Ext w w' := by subst h; exact http_two n w h0 h1
theorem sum_s (a b : ByteArray) {n k : Nat} (ha : a.size = n) (hb : b.size = k) (hk : n + k ≤ 100) : (∀ w, (Op.stringOp .add a b).run Tryz.prog w = .ok (.string (a ++ b)) w) ∧ (a ++ b).size = n + k :=
  ⟨fun w => run_string_add_sum w a b (by omega), by rw [ByteArray.size_append, ha, hb]⟩

set_option maxHeartbeats 4000000 in
theorem http_Format (n : Int) (w : World) (h0 : 0 ≤ n) (h1 : n ≤ 253402300799) (hg : GlH w) :
    Calls Tryz.prog 56 #[.int .i64 n] w fun e w' => e = .returned (.tuple #[.string (fmtS n), .nilIface]) ∧ Ext w w' := by
  have hd0 : 0 ≤ n / 86400 := by omega
  have hd1 : n / 86400 ≤ 2932896 := by omega
  obtain ⟨⟨y0, y1, m0, m1, c0, c1⟩, -⟩ := date_ok hd0 hd1
  have hml := ml_bd (yOf (n / 86400)) (mOf (n / 86400))
  have hwk := wkN_bd (n / 86400)
  have hcw := hg.wkdS (n / 86400)
  have hcm := hg.monS m0 m1
  obtain ⟨F, hF⟩ : ∃ F, fmtS n = F := ⟨_, rfl⟩
  rw [hF]
  unfold fmtS catS at hF
  have Hf := Lib.hid hF; clear hF
  have hws : (wdS (n / 86400)).size = 3 := wdS_size
  have hms := moS_size m0 m1
  have hDate := http_Date (n / 86400) w hd0 hd1 hg
  have hWk := http_Weekday (n / 86400)
  unfold dateV at hDate
  generalize hdd : n / 86400 = dd at *
  generalize hrr : n % 86400 = rr at *
  have hr0 : 0 ≤ rr := by omega
  have hr1 : rr < 86400 := by omega
  generalize mOf dd = mm at *
  generalize yOf dd = yy at *
  generalize dOf dd = ee at *
  generalize wdS dd = ws at *
  generalize moS mm = ms at *
  generalize wkN dd = wk at *
  obtain ⟨s1, z1⟩ := sum_s ws ⟨#[44, 32]⟩ hws rfl (by decide)
  obtain ⟨s2, z2⟩ := sum_s _ (twoS ee) z1 (twoS_size _) (by decide)
  obtain ⟨s3, z3⟩ := sum_s _ ⟨#[32]⟩ z2 rfl (by decide)
  obtain ⟨s4, z4⟩ := sum_s _ ms z3 hms (by decide)
  obtain ⟨s5, z5⟩ := sum_s _ ⟨#[32]⟩ z4 rfl (by decide)
  obtain ⟨s6, z6⟩ := sum_s _ (twoS (yy / 100)) z5 (twoS_size _) (by decide)
  obtain ⟨s7, z7⟩ := sum_s _ (twoS (yy % 100)) z6 (twoS_size _) (by decide)
  obtain ⟨s8, z8⟩ := sum_s _ ⟨#[32]⟩ z7 rfl (by decide)
  obtain ⟨s9, z9⟩ := sum_s _ (twoS (rr / 3600)) z8 (twoS_size _) (by decide)
  obtain ⟨s10, z10⟩ := sum_s _ ⟨#[58]⟩ z9 rfl (by decide)
  obtain ⟨s11, z11⟩ := sum_s _ (twoS (rr / 60 % 60)) z10 (twoS_size _) (by decide)
  obtain ⟨s12, z12⟩ := sum_s _ ⟨#[58]⟩ z11 rfl (by decide)
  obtain ⟨s13, z13⟩ := sum_s _ (twoS (rr % 60)) z12 (twoS_size _) (by decide)
  obtain ⟨s14, z14⟩ := sum_s _ ⟨#[32, 71, 77, 84]⟩ z13 rfl (by decide)
  clear z1 z2 z3 z4 z5 z6 z7 z8 z9 z10 z11 z12 z13 z14
  have Hw := Lib.hid hWk; clear hWk
  have HD := Lib.hid hDate; clear hDate
  go_enter Tryz.func56, Tryz.ntmps56
  go_wp2_with fail
  refine HD.out.mono ?_; rintro e w1 ⟨rfl, rfl⟩
  go_wp2_with fail
  have hE := (Ext.refl w1).drew
  have j0 : (0 : Int) ≤ (mm : Int) - 1 := by omega
  have j1 : (mm : Int) - 1 < 12 := by omega
  have j2 : (mm : Int) - 1 ≤ 9223372036854775807 := by omega
  have jw : IntKind.i64.wrap ((mm : Int) - 1) = (mm : Int) - 1 := IntWalk.i64_in _ (by omega)
  have hi := show ((mm : Int) - 1).toNat = mm - 1 by omega
  have q1 : yy.tdiv 100 = yy / 100 := Int.tdiv_eq_ediv_of_nonneg (by omega)
  have q2 : yy.tmod 100 = yy % 100 := Int.tmod_eq_emod_of_nonneg (by omega)
  have q3 : rr.tdiv 3600 = rr / 3600 := Int.tdiv_eq_ediv_of_nonneg (by omega)
  have q4 : rr.tdiv 60 = rr / 60 := Int.tdiv_eq_ediv_of_nonneg (by omega)
  have q5 : (rr / 60).tmod 60 = rr / 60 % 60 := Int.tmod_eq_emod_of_nonneg (by omega)
  have q6 : rr.tmod 60 = rr % 60 := Int.tmod_eq_emod_of_nonneg (by omega)
  have k1 : IntKind.i64.wrap (yy / 100) = yy / 100 := IntWalk.i64_in _ (by omega)
  have k3 : IntKind.i64.wrap (rr / 3600) = rr / 3600 := IntWalk.i64_in _ (by omega)
  have k4 : IntKind.i64.wrap (rr / 60) = rr / 60 := IntWalk.i64_in _ (by omega)
  have b1 : 0 ≤ yy / 100 ∧ yy / 100 ≤ 99 := by omega
  have b2 : 0 ≤ yy % 100 ∧ yy % 100 ≤ 99 := by omega
  have b3 : 0 ≤ rr / 3600 ∧ rr / 3600 ≤ 99 := by omega
  have b4 : 0 ≤ rr / 60 % 60 ∧ rr / 60 % 60 ≤ 99 := by omega
  have b5 : 0 ≤ rr % 60 ∧ rr % 60 ≤ 99 := by omega
  have b0 : 0 ≤ ee ∧ ee ≤ 99 := by omega
  have HK := Lib.hid (show ∀ w', Ext w1 w' → (w'.cell? ⟨1, wk.toNat, none⟩ = some (.string ws) ∧ w'.cell? ⟨0, mm - 1, none⟩ = some (.string ms)) from fun w' h => ⟨h.cell hcw, h.cell hcm⟩)
  have j3 : (1 : Int) ≤ (mm : Int) := by omega
  have j4 : (mm : Int) < 13 := by omega
  have j5 : (mm : Int) ≤ 12 := by omega
  refine wp_region_held_drew (S := (fun w' => w'.cell? ⟨1, wk.toNat, none⟩ = some (.string ws) ∧ w'.cell? ⟨0, mm - 1, none⟩ = some (.string ms))) (by kernel_rfl) ?_ (fun hHeld => ?_)
  · (try dsimp only); exact HK.out _ hE
  refine wpAnyH_take (i := 0) (oi := { dst := some 31, op := _, type := _, pos := _, after := _, guard := _ }) (v := ?_) rfl (by kernel_rfl) (by kernel_rfl) (by kernel_rfl) (fun _ _ _ h => h) (Or.inl ⟨by rfl, ?_⟩) (by assumption) ?_
  rotate_left
  · (intro w hSw; (try dsimp only at hSw); go_simp; (try with_reducible rfl))
  (try simp only [Act.put, List.setIfInBounds_toArray, List.set_cons_zero, List.set_cons_succ])
  refine wpAnyH_take (i := 5) (oi := { dst := some 36, op := _, type := _, pos := _, after := _, guard := _ }) (v := ?_) rfl (by kernel_rfl) (by kernel_rfl) (by kernel_rfl) (fun _ _ _ h => h) (Or.inl ⟨by rfl, ?_⟩) (by assumption) ?_
  rotate_left
  · (intro w hSw; (try dsimp only at hSw); go_simp; (try with_reducible rfl))
  (try simp only [Act.put, List.setIfInBounds_toArray, List.set_cons_zero, List.set_cons_succ])
  refine wpAnyH_take (i := 9) (oi := { dst := some 40, op := _, type := _, pos := _, after := _, guard := _ }) (v := ?_) rfl (by kernel_rfl) (by kernel_rfl) (by kernel_rfl) (fun _ _ _ h => h) (Or.inl ⟨by rfl, ?_⟩) (by assumption) ?_
  rotate_left
  · (intro w hSw; (try dsimp only at hSw); go_simp; (try with_reducible rfl))
  (try simp only [Act.put, List.setIfInBounds_toArray, List.set_cons_zero, List.set_cons_succ])
  refine wpAnyH_take (i := 10) (oi := { dst := some 41, op := _, type := _, pos := _, after := _, guard := _ }) (v := ?_) rfl (by kernel_rfl) (by kernel_rfl) (by kernel_rfl) (fun _ _ _ h => h) (Or.inl ⟨by rfl, ?_⟩) (by assumption) ?_
  rotate_left
  · (intro w hSw; (try dsimp only at hSw); go_simp; (try with_reducible rfl))
  (try simp only [Act.put, List.setIfInBounds_toArray, List.set_cons_zero, List.set_cons_succ])
  refine wpAnyH_take (i := 11) (oi := { dst := some 42, op := _, type := _, pos := _, after := _, guard := _ }) (v := ?_) rfl (by kernel_rfl) (by kernel_rfl) (by kernel_rfl) (fun _ _ _ h => h) (Or.inl ⟨by rfl, ?_⟩) (by assumption) ?_
  rotate_left
  · (intro w hSw; (try dsimp only at hSw); go_simp; (try with_reducible rfl))
  (try simp only [Act.put, List.setIfInBounds_toArray, List.set_cons_zero, List.set_cons_succ])
  refine wpAnyH_take (i := 12) (oi := { dst := some 43, op := _, type := _, pos := _, after := _, guard := _ }) (v := ?_) rfl (by kernel_rfl) (by kernel_rfl) (by kernel_rfl) (fun _ _ _ h => h) (Or.inl ⟨by rfl, ?_⟩) (by assumption) ?_
  rotate_left
  · (intro w hSw; (try dsimp only at hSw); go_simp; (try with_reducible rfl))
  (try simp only [Act.put, List.setIfInBounds_toArray, List.set_cons_zero, List.set_cons_succ])
  refine wpAnyH_take (i := 15) (oi := { dst := some 46, op := _, type := _, pos := _, after := _, guard := _ }) (v := ?_) rfl (by kernel_rfl) (by kernel_rfl) (by kernel_rfl) (fun _ _ _ h => h) (Or.inl ⟨by rfl, ?_⟩) (by assumption) ?_
  rotate_left
  · (intro w hSw; (try dsimp only at hSw); go_simp; (try with_reducible rfl))
  (try simp only [Act.put, List.setIfInBounds_toArray, List.set_cons_zero, List.set_cons_succ])
  refine wpAnyH_take (i := 16) (oi := { dst := some 47, op := _, type := _, pos := _, after := _, guard := _ }) (v := ?_) rfl (by kernel_rfl) (by kernel_rfl) (by kernel_rfl) (fun _ _ _ h => h) (Or.inl ⟨by rfl, ?_⟩) (by assumption) ?_
  rotate_left
  · (intro w hSw; (try dsimp only at hSw); go_simp; (try with_reducible rfl))
  (try simp only [Act.put, List.setIfInBounds_toArray, List.set_cons_zero, List.set_cons_succ])
  refine wpAnyH_take (i := 19) (oi := { dst := some 50, op := _, type := _, pos := _, after := _, guard := _ }) (v := ?_) rfl (by kernel_rfl) (by kernel_rfl) (by kernel_rfl) (fun _ _ _ h => h) (Or.inl ⟨by rfl, ?_⟩) (by assumption) ?_
  rotate_left
  · (intro w hSw; (try dsimp only at hSw); go_simp; (try with_reducible rfl))
  (try simp only [Act.put, List.setIfInBounds_toArray, List.set_cons_zero, List.set_cons_succ])
  refine wpAnyH_take (i := 20) (oi := { dst := some 51, op := _, type := _, pos := _, after := _, guard := _ }) (v := ?_) rfl (by kernel_rfl) (by kernel_rfl) (by kernel_rfl) (fun _ _ _ h => h) (Or.inl ⟨by rfl, ?_⟩) (by assumption) ?_
  rotate_left
  · (intro w hSw; (try dsimp only at hSw); go_simp; (try with_reducible rfl))
  (try simp only [Act.put, List.setIfInBounds_toArray, List.set_cons_zero, List.set_cons_succ])
  refine wpAnyH_take (i := 24) (oi := { dst := some 55, op := _, type := _, pos := _, after := _, guard := _ }) (v := ?_) rfl (by kernel_rfl) (by kernel_rfl) (by kernel_rfl) (fun _ _ _ h => h) (Or.inl ⟨by rfl, ?_⟩) (by assumption) ?_
  rotate_left
  · (intro w hSw; (try dsimp only at hSw); go_simp; (try with_reducible rfl))
  (try simp only [Act.put, List.setIfInBounds_toArray, List.set_cons_zero, List.set_cons_succ])
  refine wpAnyH_take (i := 25) (oi := { dst := some 56, op := _, type := _, pos := _, after := _, guard := _ }) (v := ?_) rfl (by kernel_rfl) (by kernel_rfl) (by kernel_rfl) (fun _ _ _ h => h) (Or.inl ⟨by rfl, ?_⟩) (by assumption) ?_
  rotate_left
  · (intro w hSw; (try dsimp only at hSw); go_simp; (try with_reducible rfl))
  (try simp only [Act.put, List.setIfInBounds_toArray, List.set_cons_zero, List.set_cons_succ])
  refine wpAnyH_take (i := 29) (oi := { dst := some 60, op := _, type := _, pos := _, after := _, guard := _ }) (v := ?_) rfl (by kernel_rfl) (by kernel_rfl) (by kernel_rfl) (fun _ _ _ h => h) (Or.inl ⟨by rfl, ?_⟩) (by assumption) ?_
  rotate_left
  · (intro w hSw; (try dsimp only at hSw); go_simp; (try with_reducible rfl))
  (try simp only [Act.put, List.setIfInBounds_toArray, List.set_cons_zero, List.set_cons_succ])
  refine wpAnyH_take (i := 30) (oi := { dst := some 61, op := _, type := _, pos := _, after := _, guard := _ }) (v := ?_) rfl (by kernel_rfl) (by kernel_rfl) (by kernel_rfl) (fun _ _ _ h => h) (Or.inl ⟨by rfl, ?_⟩) (by assumption) ?_
  rotate_left
  · (intro w hSw; (try dsimp only at hSw); go_simp; (try with_reducible rfl))
  (try simp only [Act.put, List.setIfInBounds_toArray, List.set_cons_zero, List.set_cons_succ])
  refine wpAnyH_take (i := 31) (oi := { dst := some 62, op := _, type := _, pos := _, after := _, guard := _ }) (v := ?_) rfl (by kernel_rfl) (by kernel_rfl) (by kernel_rfl) (fun _ _ _ h => h) (Or.inl ⟨by rfl, ?_⟩) (by assumption) ?_
  rotate_left
  · (intro w hSw; (try dsimp only at hSw); go_simp; (try with_reducible rfl))
  (try simp only [Act.put, List.setIfInBounds_toArray, List.set_cons_zero, List.set_cons_succ])
  refine wpAnyH_take (i := 35) (oi := { dst := some 66, op := _, type := _, pos := _, after := _, guard := _ }) (v := ?_) rfl (by kernel_rfl) (by kernel_rfl) (by kernel_rfl) (fun _ _ _ h => h) (Or.inl ⟨by rfl, ?_⟩) (by assumption) ?_
  rotate_left
  · (intro w hSw; (try dsimp only at hSw); go_simp; (try with_reducible rfl))
  (try simp only [Act.put, List.setIfInBounds_toArray, List.set_cons_zero, List.set_cons_succ])
  refine wpAnyH_take (i := 36) (oi := { dst := some 67, op := _, type := _, pos := _, after := _, guard := _ }) (v := ?_) rfl (by kernel_rfl) (by kernel_rfl) (by kernel_rfl) (fun _ _ _ h => h) (Or.inl ⟨by rfl, ?_⟩) (by assumption) ?_
  rotate_left
  · (intro w hSw; (try dsimp only at hSw); go_simp; (try with_reducible rfl))
  (try simp only [Act.put, List.setIfInBounds_toArray, List.set_cons_zero, List.set_cons_succ])
  refine wpAnyH_ready (rs := [1]) (by kernel_rfl) (by simp) ?_
  refine AllReadyH.cons (o := { dst := some 32, op := _, type := _, pos := _, after := _, guard := _ }) rfl (fun K hK => ?_) AllReadyH.nil
  go_simp
  refine (Hw.out _ hd0 (by omega)).mono ?_; rintro e w2 ⟨rfl, rfl⟩
  try go_wp2_with fail
  refine hK.out _ _ ?_ (fun hHeld => ?_)
  · (try dsimp only); exact HK.out _ hE
  clear hK K
  (try simp only [Act.put, List.setIfInBounds_toArray, List.set_cons_zero, List.set_cons_succ])
  refine wpAnyH_take (i := 2) (oi := { dst := some 33, op := _, type := _, pos := _, after := _, guard := _ }) (v := ?_) rfl (by kernel_rfl) (by kernel_rfl) (by kernel_rfl) (fun _ _ _ h => h) (Or.inl ⟨by rfl, ?_⟩) (by assumption) ?_
  rotate_left
  · (intro w hSw; (try dsimp only at hSw); go_simp; (try with_reducible rfl))
  (try simp only [Act.put, List.setIfInBounds_toArray, List.set_cons_zero, List.set_cons_succ])
  refine wpAnyH_take (i := 3) (oi := { dst := some 34, op := _, type := _, pos := _, after := _, guard := _ }) (v := ?_) rfl (by kernel_rfl) (by kernel_rfl) (by kernel_rfl) (fun _ _ _ h => h) (Or.inl ⟨by rfl, ?_⟩) (by assumption) ?_
  rotate_left
  · (intro w hSw; (try dsimp only at hSw); go_simp; (try with_reducible rfl))
  (try simp only [Act.put, List.setIfInBounds_toArray, List.set_cons_zero, List.set_cons_succ])
  refine wpAnyH_take (i := 4) (oi := { dst := some 35, op := _, type := _, pos := _, after := _, guard := _ }) (v := ?_) rfl (by kernel_rfl) (by kernel_rfl) (by kernel_rfl) (fun _ _ _ h => h) (Or.inl ⟨by rfl, ?_⟩) (by assumption) ?_
  rotate_left
  · (intro w hSw; (try dsimp only at hSw); go_simp; (try with_reducible rfl))
  (try simp only [Act.put, List.setIfInBounds_toArray, List.set_cons_zero, List.set_cons_succ])
  refine wpAnyH_ready (rs := [6]) (by kernel_rfl) (by simp) ?_
  refine AllReadyH.cons (o := { dst := some 37, op := _, type := _, pos := _, after := _, guard := _ }) rfl (fun K hK => ?_) AllReadyH.nil
  go_simp
  refine (two_at _ (ee) _ (by rfl) b0.1 b0.2).mono ?_; rintro e w3 ⟨rfl, hb3⟩; replace hE := hE.trans hb3; clear hb3
  try go_wp2_with fail
  refine hK.out _ _ ?_ (fun hHeld => ?_)
  · (try dsimp only); exact HK.out _ hE
  clear hK K
  (try simp only [Act.put, List.setIfInBounds_toArray, List.set_cons_zero, List.set_cons_succ])
  refine wpAnyH_take (i := 7) (oi := { dst := some 38, op := _, type := _, pos := _, after := _, guard := _ }) (v := ?_) rfl (by kernel_rfl) (by kernel_rfl) (by kernel_rfl) (fun _ _ _ h => h) (Or.inl ⟨by rfl, ?_⟩) (by assumption) ?_
  rotate_left
  · (intro w hSw; (try dsimp only at hSw); go_simp; (try with_reducible rfl))
  (try simp only [Act.put, List.setIfInBounds_toArray, List.set_cons_zero, List.set_cons_succ])
  refine wpAnyH_take (i := 8) (oi := { dst := some 39, op := _, type := _, pos := _, after := _, guard := _ }) (v := ?_) rfl (by kernel_rfl) (by kernel_rfl) (by kernel_rfl) (fun _ _ _ h => h) (Or.inl ⟨by rfl, ?_⟩) (by assumption) ?_
  rotate_left
  · (intro w hSw; (try dsimp only at hSw); go_simp; (try with_reducible rfl))
  (try simp only [Act.put, List.setIfInBounds_toArray, List.set_cons_zero, List.set_cons_succ])
  refine wpAnyH_take (i := 13) (oi := { dst := some 44, op := _, type := _, pos := _, after := _, guard := _ }) (v := ?_) rfl (by kernel_rfl) (by kernel_rfl) (by kernel_rfl) (fun _ _ _ h => h) (Or.inl ⟨by rfl, ?_⟩) (by assumption) ?_
  rotate_left
  · (intro w hSw; (try dsimp only at hSw); go_simp; (try with_reducible rfl))
  (try simp only [Act.put, List.setIfInBounds_toArray, List.set_cons_zero, List.set_cons_succ])
  refine wpAnyH_take (i := 14) (oi := { dst := some 45, op := _, type := _, pos := _, after := _, guard := _ }) (v := ?_) rfl (by kernel_rfl) (by kernel_rfl) (by kernel_rfl) (fun _ _ _ h => h) (Or.inl ⟨by rfl, ?_⟩) (by assumption) ?_
  rotate_left
  · (intro w hSw; (try dsimp only at hSw); go_simp; (try with_reducible rfl))
  (try simp only [Act.put, List.setIfInBounds_toArray, List.set_cons_zero, List.set_cons_succ])
  refine wpAnyH_ready (rs := [17]) (by kernel_rfl) (by simp) ?_
  refine AllReadyH.cons (o := { dst := some 48, op := _, type := _, pos := _, after := _, guard := _ }) rfl (fun K hK => ?_) AllReadyH.nil
  go_simp
  refine (two_at _ (yy / 100) _ (by first | exact k1 | exact q1 | rfl | (rw [q1]; exact k1)) b1.1 b1.2).mono ?_; rintro e w3 ⟨rfl, hb3⟩; replace hE := hE.trans hb3; clear hb3
  try go_wp2_with fail
  refine hK.out _ _ ?_ (fun hHeld => ?_)
  · (try dsimp only); exact HK.out _ hE
  clear hK K
  (try simp only [Act.put, List.setIfInBounds_toArray, List.set_cons_zero, List.set_cons_succ])
  refine wpAnyH_take (i := 18) (oi := { dst := some 49, op := _, type := _, pos := _, after := _, guard := _ }) (v := ?_) rfl (by kernel_rfl) (by kernel_rfl) (by kernel_rfl) (fun _ _ _ h => h) (Or.inl ⟨by rfl, ?_⟩) (by assumption) ?_
  rotate_left
  · (intro w hSw; (try dsimp only at hSw); go_simp; (try with_reducible rfl))
  (try simp only [Act.put, List.setIfInBounds_toArray, List.set_cons_zero, List.set_cons_succ])
  refine wpAnyH_ready (rs := [21]) (by kernel_rfl) (by simp) ?_
  refine AllReadyH.cons (o := { dst := some 52, op := _, type := _, pos := _, after := _, guard := _ }) rfl (fun K hK => ?_) AllReadyH.nil
  go_simp
  refine (two_at _ (yy % 100) _ (by first | exact q2 | rfl) b2.1 b2.2).mono ?_; rintro e w3 ⟨rfl, hb3⟩; replace hE := hE.trans hb3; clear hb3
  try go_wp2_with fail
  refine hK.out _ _ ?_ (fun hHeld => ?_)
  · (try dsimp only); exact HK.out _ hE
  clear hK K
  (try simp only [Act.put, List.setIfInBounds_toArray, List.set_cons_zero, List.set_cons_succ])
  refine wpAnyH_take (i := 22) (oi := { dst := some 53, op := _, type := _, pos := _, after := _, guard := _ }) (v := ?_) rfl (by kernel_rfl) (by kernel_rfl) (by kernel_rfl) (fun _ _ _ h => h) (Or.inl ⟨by rfl, ?_⟩) (by assumption) ?_
  rotate_left
  · (intro w hSw; (try dsimp only at hSw); go_simp; (try with_reducible rfl))
  (try simp only [Act.put, List.setIfInBounds_toArray, List.set_cons_zero, List.set_cons_succ])
  refine wpAnyH_take (i := 23) (oi := { dst := some 54, op := _, type := _, pos := _, after := _, guard := _ }) (v := ?_) rfl (by kernel_rfl) (by kernel_rfl) (by kernel_rfl) (fun _ _ _ h => h) (Or.inl ⟨by rfl, ?_⟩) (by assumption) ?_
  rotate_left
  · (intro w hSw; (try dsimp only at hSw); go_simp; (try with_reducible rfl))
  (try simp only [Act.put, List.setIfInBounds_toArray, List.set_cons_zero, List.set_cons_succ])
  refine wpAnyH_ready (rs := [26]) (by kernel_rfl) (by simp) ?_
  refine AllReadyH.cons (o := { dst := some 57, op := _, type := _, pos := _, after := _, guard := _ }) rfl (fun K hK => ?_) AllReadyH.nil
  go_simp
  refine (two_at _ (rr / 3600) _ (by first | exact k3 | exact q3 | rfl | (rw [q3]; exact k3)) b3.1 b3.2).mono ?_; rintro e w3 ⟨rfl, hb3⟩; replace hE := hE.trans hb3; clear hb3
  try go_wp2_with fail
  refine hK.out _ _ ?_ (fun hHeld => ?_)
  · (try dsimp only); exact HK.out _ hE
  clear hK K
  (try simp only [Act.put, List.setIfInBounds_toArray, List.set_cons_zero, List.set_cons_succ])
  refine wpAnyH_take (i := 27) (oi := { dst := some 58, op := _, type := _, pos := _, after := _, guard := _ }) (v := ?_) rfl (by kernel_rfl) (by kernel_rfl) (by kernel_rfl) (fun _ _ _ h => h) (Or.inl ⟨by rfl, ?_⟩) (by assumption) ?_
  rotate_left
  · (intro w hSw; (try dsimp only at hSw); go_simp; (try with_reducible rfl))
  (try simp only [Act.put, List.setIfInBounds_toArray, List.set_cons_zero, List.set_cons_succ])
  refine wpAnyH_take (i := 28) (oi := { dst := some 59, op := _, type := _, pos := _, after := _, guard := _ }) (v := ?_) rfl (by kernel_rfl) (by kernel_rfl) (by kernel_rfl) (fun _ _ _ h => h) (Or.inl ⟨by rfl, ?_⟩) (by assumption) ?_
  rotate_left
  · (intro w hSw; (try dsimp only at hSw); go_simp; (try with_reducible rfl))
  (try simp only [Act.put, List.setIfInBounds_toArray, List.set_cons_zero, List.set_cons_succ])
  refine wpAnyH_ready (rs := [32]) (by kernel_rfl) (by simp) ?_
  refine AllReadyH.cons (o := { dst := some 63, op := _, type := _, pos := _, after := _, guard := _ }) rfl (fun K hK => ?_) AllReadyH.nil
  go_simp
  refine (two_at _ (rr / 60 % 60) _ (by first | (rw [k4]; exact q5) | exact q5 | rfl) b4.1 b4.2).mono ?_; rintro e w3 ⟨rfl, hb3⟩; replace hE := hE.trans hb3; clear hb3
  try go_wp2_with fail
  refine hK.out _ _ ?_ (fun hHeld => ?_)
  · (try dsimp only); exact HK.out _ hE
  clear hK K
  (try simp only [Act.put, List.setIfInBounds_toArray, List.set_cons_zero, List.set_cons_succ])
  refine wpAnyH_take (i := 33) (oi := { dst := some 64, op := _, type := _, pos := _, after := _, guard := _ }) (v := ?_) rfl (by kernel_rfl) (by kernel_rfl) (by kernel_rfl) (fun _ _ _ h => h) (Or.inl ⟨by rfl, ?_⟩) (by assumption) ?_
  rotate_left
  · (intro w hSw; (try dsimp only at hSw); go_simp; (try with_reducible rfl))
  (try simp only [Act.put, List.setIfInBounds_toArray, List.set_cons_zero, List.set_cons_succ])
  refine wpAnyH_take (i := 34) (oi := { dst := some 65, op := _, type := _, pos := _, after := _, guard := _ }) (v := ?_) rfl (by kernel_rfl) (by kernel_rfl) (by kernel_rfl) (fun _ _ _ h => h) (Or.inl ⟨by rfl, ?_⟩) (by assumption) ?_
  rotate_left
  · (intro w hSw; (try dsimp only at hSw); go_simp; (try with_reducible rfl))
  (try simp only [Act.put, List.setIfInBounds_toArray, List.set_cons_zero, List.set_cons_succ])
  refine wpAnyH_ready (rs := [37]) (by kernel_rfl) (by simp) ?_
  refine AllReadyH.cons (o := { dst := some 68, op := _, type := _, pos := _, after := _, guard := _ }) rfl (fun K hK => ?_) AllReadyH.nil
  go_simp
  refine (two_at _ (rr % 60) _ (by first | exact q6 | rfl) b5.1 b5.2).mono ?_; rintro e w3 ⟨rfl, hb3⟩; replace hE := hE.trans hb3; clear hb3
  try go_wp2_with fail
  refine hK.out _ _ ?_ (fun hHeld => ?_)
  · (try dsimp only); exact HK.out _ hE
  clear hK K
  (try simp only [Act.put, List.setIfInBounds_toArray, List.set_cons_zero, List.set_cons_succ])
  refine wpAnyH_take (i := 38) (oi := { dst := some 69, op := _, type := _, pos := _, after := _, guard := _ }) (v := ?_) rfl (by kernel_rfl) (by kernel_rfl) (by kernel_rfl) (fun _ _ _ h => h) (Or.inl ⟨by rfl, ?_⟩) (by assumption) ?_
  rotate_left
  · (intro w hSw; (try dsimp only at hSw); go_simp; (try with_reducible rfl))
  (try simp only [Act.put, List.setIfInBounds_toArray, List.set_cons_zero, List.set_cons_succ])
  refine wpAnyH_take (i := 39) (oi := { dst := some 70, op := _, type := _, pos := _, after := _, guard := _ }) (v := ?_) rfl (by kernel_rfl) (by kernel_rfl) (by kernel_rfl) (fun _ _ _ h => h) (Or.inl ⟨by rfl, ?_⟩) (by assumption) ?_
  rotate_left
  · (intro w hSw; (try dsimp only at hSw); go_simp; (try with_reducible rfl))
  (try simp only [Act.put, List.setIfInBounds_toArray, List.set_cons_zero, List.set_cons_succ])
  refine wpAnyH_take (i := 40) (oi := { dst := some 2, op := _, type := _, pos := _, after := _, guard := _ }) (v := ?_) rfl (by kernel_rfl) (by kernel_rfl) (by kernel_rfl) (fun _ _ _ h => h) (Or.inl ⟨by rfl, ?_⟩) (by assumption) ?_
  rotate_left
  · (intro w hSw; (try dsimp only at hSw); go_simp; (try with_reducible rfl))
  (try simp only [Act.put, List.setIfInBounds_toArray, List.set_cons_zero, List.set_cons_succ])
  refine wpAnyH_take (i := 41) (oi := { dst := some 3, op := _, type := _, pos := _, after := _, guard := _ }) (v := ?_) rfl (by kernel_rfl) (by kernel_rfl) (by kernel_rfl) (fun _ _ _ h => h) (Or.inl ⟨by rfl, ?_⟩) (by assumption) ?_
  rotate_left
  · (intro w hSw; (try dsimp only at hSw); go_simp; (try with_reducible rfl))
  (try simp only [Act.put, List.setIfInBounds_toArray, List.set_cons_zero, List.set_cons_succ])
  refine wpAnyH_done (by kernel_rfl) ?_ _
  go_wp2_with fail
  go_ret2
  exact ⟨ret_v (congrArg (fun x => Value.tuple #[.string x, .nilIface]) Hf.out), hE⟩
end Go.Proofs.YtjacgdjnocpodaaGreatDoor
