/- The walk of httpdate.Format. The walk of httpdate.Parse. The text of a moment is read as that moment; what is read lies within its bounds. No program in sight. Plain laws on lists of fields: Same is symmetric and reflexive; neighbors with different names may change places. No program in sight. Plain laws: what Set, Add and Remove do to the values of a name and of the others. No program in sight. What the functions of lifetime and quaysideref14 compute, in plain words; their bounds. No program in sight. The walks of lifetime.date and negative. Plain facts on rows of a call's own: a literal slice; an own row beside a slice that is read; append with where the new row lies. No condition. The walks of quaysidelaw02.small, quaysidelaw02.Fields, quaysidebase.Texts. The contract of strings.Join on a slice of strings that is read. The walks of field.Get and quaysideref02.Get. field.Get in the words of an option. The walks of lifetime.expires, Cacheable, guess, Explicit, Of, Allowance. What the functions of clock, age, quaysideref12 and quaysideref13 compute, in plain words; that the upper bound of an age is one. No program in sight. Plain laws of directives: lists joined, in any order, in upper case, with unknown directives, with an open quote. No program in sight. Directives with times within their limits; the more careful one of two directives; their laws. No program in sight. What the functions of policy and quaysideref17 compute, in plain words, and their laws. No program in sight. A region that draws its order, with loads that all come ahead of a store: what is to hold until that store has come up. Plain facts on regions, no program in sight. The walks of clock and age: what they compute. No condition beyond those that each states. -/
import Derived.Test.YtocniclkooiggaaDoorJ1
import Derived.Deep.RegionHeld3
import Derived.IntWalk
import Derived.Deep.DeepCutAuto
import Derived.Test.YtocniclkooiggaaDoorRows
import Derived.Maps.AppendAt
import Derived.Deep.QuietTactic
import Derived.BigQuiet
import Derived.Test.YtocniclkooiggaaDoorShelf
import Derived.KernelRfl
import Derived.Deep.RegionHeld
import Derived.Test.YtocniclkooiggaaDoorChecked
set_option linter.unusedSimpArgs false
set_option linter.unusedVariables false
namespace Go.Proofs.YtocniclkooiggaaDoor
open Go.RowKit

/-- The text of a date out of its parts. -/
def catS (wd t1 mo t2 t3 t4 t5 t6 : ByteArray) : ByteArray :=
  wd ++ ⟨#[44, 32]⟩ ++ t1 ++ ⟨#[32]⟩ ++ mo ++ ⟨#[32]⟩ ++ t2 ++ t3 ++ ⟨#[32]⟩ ++ t4 ++ ⟨#[58]⟩ ++ t5 ++ ⟨#[58]⟩ ++ t6 ++ ⟨#[32, 71, 77, 84]⟩
def wdS (d : Int) : ByteArray := wdL.getD (wkN d).toNat ⟨#[]⟩
def moS (m : Nat) : ByteArray := moL.getD (m - 1) ⟨#[]⟩
def fmtS (n : Int) : ByteArray := catS (wdS (n / 86400)) (twoS (dOf (n / 86400))) (moS (mOf (n / 86400))) (twoS (yOf (n / 86400) / 100)) (twoS (yOf (n / 86400) % 100)) (twoS (n % 86400 / 3600)) (twoS (n % 86400 / 60 % 60)) (twoS (n % 86400 % 60))
theorem wdS_size {d : Int} : (wdS d).size = 3 := by
  have := wkN_bd d
  unfold wdS
  have h : (wkN d).toNat < 7 := by omega
  generalize (wkN d).toNat = k at *
  have : k = 0 ∨ k = 1 ∨ k = 2 ∨ k = 3 ∨ k = 4 ∨ k = 5 ∨ k = 6 := by omega
  rcases this with h | h | h | h | h | h | h <;> subst h <;> rfl
theorem moS_size {m : Nat} (h1 : 1 ≤ m) (h2 : m ≤ 12) : (moS m).size = 3 := by
  have : m = 1 ∨ m = 2 ∨ m = 3 ∨ m = 4 ∨ m = 5 ∨ m = 6 ∨ m = 7 ∨ m = 8 ∨ m = 9 ∨ m = 10 ∨ m = 11 ∨ m = 12 := by omega
  rcases this with h | h | h | h | h | h | h | h | h | h | h | h <;> subst h <;> rfl
theorem twoS_size (n : Int) : (twoS n).size = 2 := rfl
theorem GlH.monS {w : World} (h : GlH w) {m : Nat} (h1 : 1 ≤ m) (h2 : m ≤ 12) : w.cell? ⟨0, m - 1, none⟩ = some (.string (moS m)) := by
  have := h.mon (k := m - 1) (by omega)
  unfold moS
  rw [List.getD_eq_getElem?_getD, List.getElem?_eq_getElem (by show m - 1 < 12; omega)]
  exact this
theorem GlH.wkdS {w : World} (h : GlH w) (d : Int) : w.cell? ⟨1, (wkN d).toNat, none⟩ = some (.string (wdS d)) := by
  have hb := wkN_bd d
  have := h.wkd (k := (wkN d).toNat) (by omega)
  unfold wdS
  rw [List.getD_eq_getElem?_getD, List.getElem?_eq_getElem (by show (wkN d).toNat < 7; omega)]
  exact this
theorem two_at (n m : Int) (w : World) (h : n = m) (h0 : 0 ≤ m) (h1 : m ≤ 99) :
    Calls Tryd.prog 89 #[.int .i64 n] w fun e w' => e = .returned (.string (twoS m)) ∧ Ext w w' := by subst h; exact http_two n w h0 h1
theorem sum_s (a b : ByteArray) {n k : Nat} (ha : a.size = n) (hb : b.size = k) (hk : n + k ≤ 100) : (∀ w, (Op.stringOp .add a b).run Tryd.prog w = .ok (.string (a ++ b)) w) ∧ (a ++ b).size = n + k :=
  ⟨fun w => run_string_add_sum w a b (by omega), by rw [ByteArray.size_append, ha, hb]⟩

set_option maxHeartbeats 4000000 in
theorem http_Format (n : Int) (w : World) (h0 : 0 ≤ n) (h1 : n ≤ 253402300799) (hg : GlH w) :
    Calls Tryd.prog 72 #[.int .i64 n] w fun e w' => e = .returned (.tuple #[.string (fmtS n), .nilIface]) ∧ Ext w w' := by
  have hd0 : 0 ≤ n / 86400 := by omega
  have hd1 : n / 86400 ≤ 2932896 := by omega
  obtain ⟨⟨y0, y1, m0, m1, c0, c1⟩, -⟩ := date_ok hd0 hd1
  have hml := ml_bd (yOf (n / 86400)) (mOf (n / 86400))
  have hwk := wkN_bd (n / 86400)
  have hcw := hg.wkdS (n / 86400)
  have hcm := hg.monS m0 m1
  obtain ⟨F, hF⟩ : ∃ F, fmtS n = F := ⟨_, rfl⟩
  rw [hF]
  unfold fmtS catS at hF
  have Hf := Lib.hid hF; clear hF
  have hws : (wdS (n / 86400)).size = 3 := wdS_size
  have hms := moS_size m0 m1
  have hDate := http_Date (n / 86400) w hd0 hd1 hg
  have hWk := http_Weekday (n / 86400)
  unfold dateV at hDate
  generalize hdd : n / 86400 = dd at *
  generalize hrr : n % 86400 = rr at *
  have hr0 : 0 ≤ rr := by omega
  have hr1 : rr < 86400 := by omega
  generalize mOf dd = mm at *
  generalize yOf dd = yy at *
  generalize dOf dd = ee at *
  generalize wdS dd = ws at *
  generalize moS mm = ms at *
  generalize wkN dd = wk at *
  obtain ⟨s1, z1⟩ := sum_s ws ⟨#[44, 32]⟩ hws rfl (by decide)
  obtain ⟨s2, z2⟩ := sum_s _ (twoS ee) z1 (twoS_size _) (by decide)
  obtain ⟨s3, z3⟩ := sum_s _ ⟨#[32]⟩ z2 rfl (by decide)
  obtain ⟨s4, z4⟩ := sum_s _ ms z3 hms (by decide)
  obtain ⟨s5, z5⟩ := sum_s _ ⟨#[32]⟩ z4 rfl (by decide)
  obtain ⟨s6, z6⟩ := sum_s _ (twoS (yy / 100)) z5 (twoS_size _) (by decide)
  obtain ⟨s7, z7⟩ := sum_s _ (twoS (yy % 100)) z6 (twoS_size _) (by decide)
  obtain ⟨s8, z8⟩ := sum_s _ ⟨#[32]⟩ z7 rfl (by decide)
  obtain ⟨s9, z9⟩ := sum_s _ (twoS (rr / 3600)) z8 (twoS_size _) (by decide)
  obtain ⟨s10, z10⟩ := sum_s _ ⟨#[58]⟩ z9 rfl (by decide)
  obtain ⟨s11, z11⟩ := sum_s _ (twoS (rr / 60 % 60)) z10 (twoS_size _) (by decide)
  obtain ⟨s12, z12⟩ := sum_s _ ⟨#[58]⟩ z11 rfl (by decide)
  obtain ⟨s13, z13⟩ := sum_s _ (twoS (rr % 60)) z12 (twoS_size _) (by decide)
  obtain ⟨s14, z14⟩ := sum_s _ ⟨#[32, 71, 77, 84]⟩ z13 rfl (by decide)
  clear z1 z2 z3 z4 z5 z6 z7 z8 z9 z10 z11 z12 z13 z14
  have Hw := Lib.hid hWk; clear hWk
  have HD := Lib.hid hDate; clear hDate
  go_enter Tryd.func72, Tryd.ntmps72
  go_wp2_with fail
  refine HD.out.mono ?_; rintro e w1 ⟨rfl, rfl⟩
  go_wp2_with fail
  have hE := (Ext.refl w1).drew
  have j0 : (0 : Int) ≤ (mm : Int) - 1 := by omega
  have j1 : (mm : Int) - 1 < 12 := by omega
  have j2 : (mm : Int) - 1 ≤ 9223372036854775807 := by omega
  have jw : IntKind.i64.wrap ((mm : Int) - 1) = (mm : Int) - 1 := IntWalk.i64_in _ (by omega)
  have hi := show ((mm : Int) - 1).toNat = mm - 1 by omega
  have q1 : yy.tdiv 100 = yy / 100 := Int.tdiv_eq_ediv_of_nonneg (by omega)
  have q2 : yy.tmod 100 = yy % 100 := Int.tmod_eq_emod_of_nonneg (by omega)
  have q3 : rr.tdiv 3600 = rr / 3600 := Int.tdiv_eq_ediv_of_nonneg (by omega)
  have q4 : rr.tdiv 60 = rr / 60 := Int.tdiv_eq_ediv_of_nonneg (by omega)
  have q5 : (rr / 60).tmod 60 = rr / 60 % 60 := Int.tmod_eq_emod_of_nonneg (by omega)
  have q6 : rr.tmod 60 = rr % 60 := Int.tmod_eq_emod_of_nonneg (by omega)
  have k1 : IntKind.i64.wrap (yy / 100) = yy / 100 := IntWalk.i64_in _ (by omega)
  have k3 : IntKind.i64.wrap (rr / 3600) = rr / 3600 := IntWalk.i64_in _ (by omega)
  have k4 : IntKind.i64.wrap (rr / 60) = rr / 60 := IntWalk.i64_in _ (by omega)
  have b1 : 0 ≤ yy / 100 ∧ yy / 100 ≤ 99 := by omega
  have b2 : 0 ≤ yy % 100 ∧ yy % 100 ≤ 99 := by omega
  have b3 : 0 ≤ rr / 3600 ∧ rr / 3600 ≤ 99 := by omega
  have b4 : 0 ≤ rr / 60 % 60 ∧ rr / 60 % 60 ≤ 99 := by omega
  have b5 : 0 ≤ rr % 60 ∧ rr % 60 ≤ 99 := by omega
  have b0 : 0 ≤ ee ∧ ee ≤ 99 := by omega
  have HK := Lib.hid (show ∀ w', Ext w1 w' → (w'.cell? ⟨1, wk.toNat, none⟩ = some (.string ws) ∧ w'.cell? ⟨0, mm - 1, none⟩ = some (.string ms)) from fun w' h => ⟨h.cell hcw, h.cell hcm⟩)
  have j3 : (1 : Int) ≤ (mm : Int) := by omega
  have j4 : (mm : Int) < 13 := by omega
  have j5 : (mm : Int) ≤ 12 := by omega
  refine wp_region_held_drew (S := (fun w' => w'.cell? ⟨1, wk.toNat, none⟩ = some (.string ws) ∧ w'.cell? ⟨0, mm - 1, none⟩ = some (.string ms))) (by kernel_rfl) ?_ (fun hHeld => ?_)
  · (try dsimp only); exact HK.out _ hE
  refine wpAnyH_take (i := 0) (oi := { dst := some 31, op := _, type := _, pos := _, after := _, guard := _ }) (v := ?_) rfl (by kernel_rfl) (by kernel_rfl) (by kernel_rfl) (fun _ _ _ h => h) (Or.inl ⟨by rfl, ?_⟩) (by assumption) ?_
  rotate_left
  · (intro w hSw; (try dsimp only at hSw); go_simp; (try with_reducible rfl))
  (try simp only [Act.put, List.setIfInBounds_toArray, List.set_cons_zero, List.set_cons_succ])
  refine wpAnyH_take (i := 5) (oi := { dst := some 36, op := _, type := _, pos := _, after := _, guard := _ }) (v := ?_) rfl (by kernel_rfl) (by kernel_rfl) (by kernel_rfl) (fun _ _ _ h => h) (Or.inl ⟨by rfl, ?_⟩) (by assumption) ?_
  rotate_left
  · (intro w hSw; (try dsimp only at hSw); go_simp; (try with_reducible rfl))
  (try simp only [Act.put, List.setIfInBounds_toArray, List.set_cons_zero, List.set_cons_succ])
  refine wpAnyH_take (i := 9) (oi := { dst := some 40, op := _, type := _, pos := _, after := _, guard := _ }) (v := ?_) rfl (by kernel_rfl) (by kernel_rfl) (by kernel_rfl) (fun _ _ _ h => h) (Or.inl ⟨by rfl, ?_⟩) (by assumption) ?_
  rotate_left
  · (intro w hSw; (try dsimp only at hSw); go_simp; (try with_reducible rfl))
  (try simp only [Act.put, List.setIfInBounds_toArray, List.set_cons_zero, List.set_cons_succ])
  refine wpAnyH_take (i := 10) (oi := { dst := some 41, op := _, type := _, pos := _, after := _, guard := _ }) (v := ?_) rfl (by kernel_rfl) (by kernel_rfl) (by kernel_rfl) (fun _ _ _ h => h) (Or.inl ⟨by rfl, ?_⟩) (by assumption) ?_
  rotate_left
  · (intro w hSw; (try dsimp only at hSw); go_simp; (try with_reducible rfl))
  (try simp only [Act.put, List.setIfInBounds_toArray, List.set_cons_zero, List.set_cons_succ])
  refine wpAnyH_take (i := 11) (oi := { dst := some 42, op := _, type := _, pos := _, after := _, guard := _ }) (v := ?_) rfl (by kernel_rfl) (by kernel_rfl) (by kernel_rfl) (fun _ _ _ h => h) (Or.inl ⟨by rfl, ?_⟩) (by assumption) ?_
  rotate_left
  · (intro w hSw; (try dsimp only at hSw); go_simp; (try with_reducible rfl))
  (try simp only [Act.put, List.setIfInBounds_toArray, List.set_cons_zero, List.set_cons_succ])
  refine wpAnyH_take (i := 12) (oi := { dst := some 43, op := _, type := _, pos := _, after := _, guard := _ }) (v := ?_) rfl (by kernel_rfl) (by kernel_rfl) (by kernel_rfl) (fun _ _ _ h => h) (Or.inl ⟨by rfl, ?_⟩) (by assumption) ?_
  rotate_left
  · (intro w hSw; (try dsimp only at hSw); go_simp; (try with_reducible rfl))
  (try simp only [Act.put, List.setIfInBounds_toArray, List.set_cons_zero, List.set_cons_succ])
  refine wpAnyH_take (i := 15) (oi := { dst := some 46, op := _, type := _, pos := _, after := _, guard := _ }) (v := ?_) rfl (by kernel_rfl) (by kernel_rfl) (by kernel_rfl) (fun _ _ _ h => h) (Or.inl ⟨by rfl, ?_⟩) (by assumption) ?_
  rotate_left
  · (intro w hSw; (try dsimp only at hSw); go_simp; (try with_reducible rfl))
  (try simp only [Act.put, List.setIfInBounds_toArray, List.set_cons_zero, List.set_cons_succ])
  refine wpAnyH_take (i := 16) (oi := { dst := some 47, op := _, type := _, pos := _, after := _, guard := _ }) (v := ?_) rfl (by kernel_rfl) (by kernel_rfl) (by kernel_rfl) (fun _ _ _ h => h) (Or.inl ⟨by rfl, ?_⟩) (by assumption) ?_
  rotate_left
  · (intro w hSw; (try dsimp only at hSw); go_simp; (try with_reducible rfl))
  (try simp only [Act.put, List.setIfInBounds_toArray, List.set_cons_zero, List.set_cons_succ])
  refine wpAnyH_take (i := 19) (oi := { dst := some 50, op := _, type := _, pos := _, after := _, guard := _ }) (v := ?_) rfl (by kernel_rfl) (by kernel_rfl) (by kernel_rfl) (fun _ _ _ h => h) (Or.inl ⟨by rfl, ?_⟩) (by assumption) ?_
  rotate_left
  · (intro w hSw; (try dsimp only at hSw); go_simp; (try with_reducible rfl))
  (try simp only [Act.put, List.setIfInBounds_toArray, List.set_cons_zero, List.set_cons_succ])
  refine wpAnyH_take (i := 20) (oi := { dst := some 51, op := _, type := _, pos := _, after := _, guard := _ }) (v := ?_) rfl (by kernel_rfl) (by kernel_rfl) (by kernel_rfl) (fun _ _ _ h => h) (Or.inl ⟨by rfl, ?_⟩) (by assumption) ?_
  rotate_left
  · (intro w hSw; (try dsimp only at hSw); go_simp; (try with_reducible rfl))
  (try simp only [Act.put, List.setIfInBounds_toArray, List.set_cons_zero, List.set_cons_succ])
  refine wpAnyH_take (i := 24) (oi := { dst := some 55, op := _, type := _, pos := _, after := _, guard := _ }) (v := ?_) rfl (by kernel_rfl) (by kernel_rfl) (by kernel_rfl) (fun _ _ _ h => h) (Or.inl ⟨by rfl, ?_⟩) (by assumption) ?_
  rotate_left
  · (intro w hSw; (try dsimp only at hSw); go_simp; (try with_reducible rfl))
  (try simp only [Act.put, List.setIfInBounds_toArray, List.set_cons_zero, List.set_cons_succ])
  refine wpAnyH_take (i := 25) (oi := { dst := some 56, op := _, type := _, pos := _, after := _, guard := _ }) (v := ?_) rfl (by kernel_rfl) (by kernel_rfl) (by kernel_rfl) (fun _ _ _ h => h) (Or.inl ⟨by rfl, ?_⟩) (by assumption) ?_
  rotate_left
  · (intro w hSw; (try dsimp only at hSw); go_simp; (try with_reducible rfl))
  (try simp only [Act.put, List.setIfInBounds_toArray, List.set_cons_zero, List.set_cons_succ])
  refine wpAnyH_take (i := 29) (oi := { dst := some 60, op := _, type := _, pos := _, after := _, guard := _ }) (v := ?_) rfl (by kernel_rfl) (by kernel_rfl) (by kernel_rfl) (fun _ _ _ h => h) (Or.inl ⟨by rfl, ?_⟩) (by assumption) ?_
  rotate_left
  · (intro w hSw; (try dsimp only at hSw); go_simp; (try with_reducible rfl))
  (try simp only [Act.put, List.setIfInBounds_toArray, List.set_cons_zero, List.set_cons_succ])
  refine wpAnyH_take (i := 30) (oi := { dst := some 61, op := _, type := _, pos := _, after := _, guard := _ }) (v := ?_) rfl (by kernel_rfl) (by kernel_rfl) (by kernel_rfl) (fun _ _ _ h => h) (Or.inl ⟨by rfl, ?_⟩) (by assumption) ?_
  rotate_left
  · (intro w hSw; (try dsimp only at hSw); go_simp; (try with_reducible rfl))
  (try simp only [Act.put, List.setIfInBounds_toArray, List.set_cons_zero, List.set_cons_succ])
  refine wpAnyH_take (i := 31) (oi := { dst := some 62, op := _, type := _, pos := _, after := _, guard := _ }) (v := ?_) rfl (by kernel_rfl) (by kernel_rfl) (by kernel_rfl) (fun _ _ _ h => h) (Or.inl ⟨by rfl, ?_⟩) (by assumption) ?_
  rotate_left
  · (intro w hSw; (try dsimp only at hSw); go_simp; (try with_reducible rfl))
  (try simp only [Act.put, List.setIfInBounds_toArray, List.set_cons_zero, List.set_cons_succ])
  refine wpAnyH_take (i := 35) (oi := { dst := some 66, op := _, type := _, pos := _, after := _, guard := _ }) (v := ?_) rfl (by kernel_rfl) (by kernel_rfl) (by kernel_rfl) (fun _ _ _ h => h) (Or.inl ⟨by rfl, ?_⟩) (by assumption) ?_
  rotate_left
  · (intro w hSw; (try dsimp only at hSw); go_simp; (try with_reducible rfl))
  (try simp only [Act.put, List.setIfInBounds_toArray, List.set_cons_zero, List.set_cons_succ])
  refine wpAnyH_take (i := 36) (oi := { dst := some 67, op := _, type := _, pos := _, after := _, guard := _ }) (v := ?_) rfl (by kernel_rfl) (by kernel_rfl) (by kernel_rfl) (fun _ _ _ h => h) (Or.inl ⟨by rfl, ?_⟩) (by assumption) ?_
  rotate_left
  · (intro w hSw; (try dsimp only at hSw); go_simp; (try with_reducible rfl))
  (try simp only [Act.put, List.setIfInBounds_toArray, List.set_cons_zero, List.set_cons_succ])
  refine wpAnyH_ready (rs := [1]) (by kernel_rfl) (by simp) ?_
  refine AllReadyH.cons (o := { dst := some 32, op := _, type := _, pos := _, after := _, guard := _ }) rfl (fun K hK => ?_) AllReadyH.nil
  go_simp
  refine (Hw.out _ hd0 (by omega)).mono ?_; rintro e w2 ⟨rfl, rfl⟩
  try go_wp2_with fail
  refine hK.out _ _ ?_ (fun hHeld => ?_)
  · (try dsimp only); exact HK.out _ hE
  clear hK K
  (try simp only [Act.put, List.setIfInBounds_toArray, List.set_cons_zero, List.set_cons_succ])
  refine wpAnyH_take (i := 2) (oi := { dst := some 33, op := _, type := _, pos := _, after := _, guard := _ }) (v := ?_) rfl (by kernel_rfl) (by kernel_rfl) (by kernel_rfl) (fun _ _ _ h => h) (Or.inl ⟨by rfl, ?_⟩) (by assumption) ?_
  rotate_left
  · (intro w hSw; (try dsimp only at hSw); go_simp; (try with_reducible rfl))
  (try simp only [Act.put, List.setIfInBounds_toArray, List.set_cons_zero, List.set_cons_succ])
  refine wpAnyH_take (i := 3) (oi := { dst := some 34, op := _, type := _, pos := _, after := _, guard := _ }) (v := ?_) rfl (by kernel_rfl) (by kernel_rfl) (by kernel_rfl) (fun _ _ _ h => h) (Or.inl ⟨by rfl, ?_⟩) (by assumption) ?_
  rotate_left
  · (intro w hSw; (try dsimp only at hSw); go_simp; (try with_reducible rfl))
  (try simp only [Act.put, List.setIfInBounds_toArray, List.set_cons_zero, List.set_cons_succ])
  refine wpAnyH_take (i := 4) (oi := { dst := some 35, op := _, type := _, pos := _, after := _, guard := _ }) (v := ?_) rfl (by kernel_rfl) (by kernel_rfl) (by kernel_rfl) (fun _ _ _ h => h) (Or.inl ⟨by rfl, ?_⟩) (by assumption) ?_
  rotate_left
  · (intro w hSw; (try dsimp only at hSw); go_simp; (try with_reducible rfl))
  (try simp only [Act.put, List.setIfInBounds_toArray, List.set_cons_zero, List.set_cons_succ])
  refine wpAnyH_ready (rs := [6]) (by kernel_rfl) (by simp) ?_
  refine AllReadyH.cons (o := { dst := some 37, op := _, type := _, pos := _, after := _, guard := _ }) rfl (fun K hK => ?_) AllReadyH.nil
  go_simp
  refine (two_at _ (ee) _ (by rfl) b0.1 b0.2).mono ?_; rintro e w3 ⟨rfl, hb3⟩; replace hE := hE.trans hb3; clear hb3
  try go_wp2_with fail
  refine hK.out _ _ ?_ (fun hHeld => ?_)
  · (try dsimp only); exact HK.out _ hE
  clear hK K
  (try simp only [Act.put, List.setIfInBounds_toArray, List.set_cons_zero, List.set_cons_succ])
  refine wpAnyH_take (i := 7) (oi := { dst := some 38, op := _, type := _, pos := _, after := _, guard := _ }) (v := ?_) rfl (by kernel_rfl) (by kernel_rfl) (by kernel_rfl) (fun _ _ _ h => h) (Or.inl ⟨by rfl, ?_⟩) (by assumption) ?_
  rotate_left
  · (intro w hSw; (try dsimp only at hSw); go_simp; (try with_reducible rfl))
  (try simp only [Act.put, List.setIfInBounds_toArray, List.set_cons_zero, List.set_cons_succ])
  refine wpAnyH_take (i := 8) (oi := { dst := some 39, op := _, type := _, pos := _, after := _, guard := _ }) (v := ?_) rfl (by kernel_rfl) (by kernel_rfl) (by kernel_rfl) (fun _ _ _ h => h) (Or.inl ⟨by rfl, ?_⟩) (by assumption) ?_
  rotate_left
  · (intro w hSw; (try dsimp only at hSw); go_simp; (try with_reducible rfl))
  (try simp only [Act.put, List.setIfInBounds_toArray, List.set_cons_zero, List.set_cons_succ])
  refine wpAnyH_take (i := 13) (oi := { dst := some 44, op := _, type := _, pos := _, after := _, guard := _ }) (v := ?_) rfl (by kernel_rfl) (by kernel_rfl) (by kernel_rfl) (fun _ _ _ h => h) (Or.inl ⟨by rfl, ?_⟩) (by assumption) ?_
  rotate_left
  · (intro w hSw; (try dsimp only at hSw); go_simp; (try with_reducible rfl))
  (try simp only [Act.put, List.setIfInBounds_toArray, List.set_cons_zero, List.set_cons_succ])
  refine wpAnyH_take (i := 14) (oi := { dst := some 45, op := _, type := _, pos := _, after := _, guard := _ }) (v := ?_) rfl (by kernel_rfl) (by kernel_rfl) (by kernel_rfl) (fun _ _ _ h => h) (Or.inl ⟨by rfl, ?_⟩) (by assumption) ?_
  rotate_left
  · (intro w hSw; (try dsimp only at hSw); go_simp; (try with_reducible rfl))
  (try simp only [Act.put, List.setIfInBounds_toArray, List.set_cons_zero, List.set_cons_succ])
  refine wpAnyH_ready (rs := [17]) (by kernel_rfl) (by simp) ?_
  refine AllReadyH.cons (o := { dst := some 48, op := _, type := _, pos := _, after := _, guard := _ }) rfl (fun K hK => ?_) AllReadyH.nil
  go_simp
  refine (two_at _ (yy / 100) _ (by first | exact k1 | exact q1 | rfl | (rw [q1]; exact k1)) b1.1 b1.2).mono ?_; rintro e w3 ⟨rfl, hb3⟩; replace hE := hE.trans hb3; clear hb3
  try go_wp2_with fail
  refine hK.out _ _ ?_ (fun hHeld => ?_)
  · (try dsimp only); exact HK.out _ hE
  clear hK K
  (try simp only [Act.put, List.setIfInBounds_toArray, List.set_cons_zero, List.set_cons_succ])
  refine wpAnyH_take (i := 18) (oi := { dst := some 49, op := _, type := _, pos := _, after := _, guard := _ }) (v := ?_) rfl (by kernel_rfl) (by kernel_rfl) (by kernel_rfl) (fun _ _ _ h => h) (Or.inl ⟨by rfl, ?_⟩) (by assumption) ?_
  rotate_left
  · (intro w hSw; (try dsimp only at hSw); go_simp; (try with_reducible rfl))
  (try simp only [Act.put, List.setIfInBounds_toArray, List.set_cons_zero, List.set_cons_succ])
  refine wpAnyH_ready (rs := [21]) (by kernel_rfl) (by simp) ?_
  refine AllReadyH.cons (o := { dst := some 52, op := _, type := _, pos := _, after := _, guard := _ }) rfl (fun K hK => ?_) AllReadyH.nil
  go_simp
  refine (two_at _ (yy % 100) _ (by first | exact q2 | rfl) b2.1 b2.2).mono ?_; rintro e w3 ⟨rfl, hb3⟩; replace hE := hE.trans hb3; clear hb3
  try go_wp2_with fail
  refine hK.out _ _ ?_ (fun hHeld => ?_)
  · (try dsimp only); exact HK.out _ hE
  clear hK K
  (try simp only [Act.put, List.setIfInBounds_toArray, List.set_cons_zero, List.set_cons_succ])
  refine wpAnyH_take (i := 22) (oi := { dst := some 53, op := _, type := _, pos := _, after := _, guard := _ }) (v := ?_) rfl (by kernel_rfl) (by kernel_rfl) (by kernel_rfl) (fun _ _ _ h => h) (Or.inl ⟨by rfl, ?_⟩) (by assumption) ?_
  rotate_left
  · (intro w hSw; (try dsimp only at hSw); go_simp; (try with_reducible rfl))
  (try simp only [Act.put, List.setIfInBounds_toArray, List.set_cons_zero, List.set_cons_succ])
  refine wpAnyH_take (i := 23) (oi := { dst := some 54, op := _, type := _, pos := _, after := _, guard := _ }) (v := ?_) rfl (by kernel_rfl) (by kernel_rfl) (by kernel_rfl) (fun _ _ _ h => h) (Or.inl ⟨by rfl, ?_⟩) (by assumption) ?_
  rotate_left
  · (intro w hSw; (try dsimp only at hSw); go_simp; (try with_reducible rfl))
  (try simp only [Act.put, List.setIfInBounds_toArray, List.set_cons_zero, List.set_cons_succ])
  refine wpAnyH_ready (rs := [26]) (by kernel_rfl) (by simp) ?_
  refine AllReadyH.cons (o := { dst := some 57, op := _, type := _, pos := _, after := _, guard := _ }) rfl (fun K hK => ?_) AllReadyH.nil
  go_simp
  refine (two_at _ (rr / 3600) _ (by first | exact k3 | exact q3 | rfl | (rw [q3]; exact k3)) b3.1 b3.2).mono ?_; rintro e w3 ⟨rfl, hb3⟩; replace hE := hE.trans hb3; clear hb3
  try go_wp2_with fail
  refine hK.out _ _ ?_ (fun hHeld => ?_)
  · (try dsimp only); exact HK.out _ hE
  clear hK K
  (try simp only [Act.put, List.setIfInBounds_toArray, List.set_cons_zero, List.set_cons_succ])
  refine wpAnyH_take (i := 27) (oi := { dst := some 58, op := _, type := _, pos := _, after := _, guard := _ }) (v := ?_) rfl (by kernel_rfl) (by kernel_rfl) (by kernel_rfl) (fun _ _ _ h => h) (Or.inl ⟨by rfl, ?_⟩) (by assumption) ?_
  rotate_left
  · (intro w hSw; (try dsimp only at hSw); go_simp; (try with_reducible rfl))
  (try simp only [Act.put, List.setIfInBounds_toArray, List.set_cons_zero, List.set_cons_succ])
  refine wpAnyH_take (i := 28) (oi := { dst := some 59, op := _, type := _, pos := _, after := _, guard := _ }) (v := ?_) rfl (by kernel_rfl) (by kernel_rfl) (by kernel_rfl) (fun _ _ _ h => h) (Or.inl ⟨by rfl, ?_⟩) (by assumption) ?_
  rotate_left
  · (intro w hSw; (try dsimp only at hSw); go_simp; (try with_reducible rfl))
  (try simp only [Act.put, List.setIfInBounds_toArray, List.set_cons_zero, List.set_cons_succ])
  refine wpAnyH_ready (rs := [32]) (by kernel_rfl) (by simp) ?_
  refine AllReadyH.cons (o := { dst := some 63, op := _, type := _, pos := _, after := _, guard := _ }) rfl (fun K hK => ?_) AllReadyH.nil
  go_simp
  refine (two_at _ (rr / 60 % 60) _ (by first | (rw [k4]; exact q5) | exact q5 | rfl) b4.1 b4.2).mono ?_; rintro e w3 ⟨rfl, hb3⟩; replace hE := hE.trans hb3; clear hb3
  try go_wp2_with fail
  refine hK.out _ _ ?_ (fun hHeld => ?_)
  · (try dsimp only); exact HK.out _ hE
  clear hK K
  (try simp only [Act.put, List.setIfInBounds_toArray, List.set_cons_zero, List.set_cons_succ])
  refine wpAnyH_take (i := 33) (oi := { dst := some 64, op := _, type := _, pos := _, after := _, guard := _ }) (v := ?_) rfl (by kernel_rfl) (by kernel_rfl) (by kernel_rfl) (fun _ _ _ h => h) (Or.inl ⟨by rfl, ?_⟩) (by assumption) ?_
  rotate_left
  · (intro w hSw; (try dsimp only at hSw); go_simp; (try with_reducible rfl))
  (try simp only [Act.put, List.setIfInBounds_toArray, List.set_cons_zero, List.set_cons_succ])
  refine wpAnyH_take (i := 34) (oi := { dst := some 65, op := _, type := _, pos := _, after := _, guard := _ }) (v := ?_) rfl (by kernel_rfl) (by kernel_rfl) (by kernel_rfl) (fun _ _ _ h => h) (Or.inl ⟨by rfl, ?_⟩) (by assumption) ?_
  rotate_left
  · (intro w hSw; (try dsimp only at hSw); go_simp; (try with_reducible rfl))
  (try simp only [Act.put, List.setIfInBounds_toArray, List.set_cons_zero, List.set_cons_succ])
  refine wpAnyH_ready (rs := [37]) (by kernel_rfl) (by simp) ?_
  refine AllReadyH.cons (o := { dst := some 68, op := _, type := _, pos := _, after := _, guard := _ }) rfl (fun K hK => ?_) AllReadyH.nil
  go_simp
  refine (two_at _ (rr % 60) _ (by first | exact q6 | rfl) b5.1 b5.2).mono ?_; rintro e w3 ⟨rfl, hb3⟩; replace hE := hE.trans hb3; clear hb3
  try go_wp2_with fail
  refine hK.out _ _ ?_ (fun hHeld => ?_)
  · (try dsimp only); exact HK.out _ hE
  clear hK K
  (try simp only [Act.put, List.setIfInBounds_toArray, List.set_cons_zero, List.set_cons_succ])
  refine wpAnyH_take (i := 38) (oi := { dst := some 69, op := _, type := _, pos := _, after := _, guard := _ }) (v := ?_) rfl (by kernel_rfl) (by kernel_rfl) (by kernel_rfl) (fun _ _ _ h => h) (Or.inl ⟨by rfl, ?_⟩) (by assumption) ?_
  rotate_left
  · (intro w hSw; (try dsimp only at hSw); go_simp; (try with_reducible rfl))
  (try simp only [Act.put, List.setIfInBounds_toArray, List.set_cons_zero, List.set_cons_succ])
  refine wpAnyH_take (i := 39) (oi := { dst := some 70, op := _, type := _, pos := _, after := _, guard := _ }) (v := ?_) rfl (by kernel_rfl) (by kernel_rfl) (by kernel_rfl) (fun _ _ _ h => h) (Or.inl ⟨by rfl, ?_⟩) (by assumption) ?_
  rotate_left
  · (intro w hSw; (try dsimp only at hSw); go_simp; (try with_reducible rfl))
  (try simp only [Act.put, List.setIfInBounds_toArray, List.set_cons_zero, List.set_cons_succ])
  refine wpAnyH_take (i := 40) (oi := { dst := some 2, op := _, type := _, pos := _, after := _, guard := _ }) (v := ?_) rfl (by kernel_rfl) (by kernel_rfl) (by kernel_rfl) (fun _ _ _ h => h) (Or.inl ⟨by rfl, ?_⟩) (by assumption) ?_
  rotate_left
  · (intro w hSw; (try dsimp only at hSw); go_simp; (try with_reducible rfl))
  (try simp only [Act.put, List.setIfInBounds_toArray, List.set_cons_zero, List.set_cons_succ])
  refine wpAnyH_take (i := 41) (oi := { dst := some 3, op := _, type := _, pos := _, after := _, guard := _ }) (v := ?_) rfl (by kernel_rfl) (by kernel_rfl) (by kernel_rfl) (fun _ _ _ h => h) (Or.inl ⟨by rfl, ?_⟩) (by assumption) ?_
  rotate_left
  · (intro w hSw; (try dsimp only at hSw); go_simp; (try with_reducible rfl))
  (try simp only [Act.put, List.setIfInBounds_toArray, List.set_cons_zero, List.set_cons_succ])
  refine wpAnyH_done (by kernel_rfl) ?_ _
  go_wp2_with fail
  go_ret2
  exact ⟨ret_v (congrArg (fun x => Value.tuple #[.string x, .nilIface]) Hf.out), hE⟩
end Go.Proofs.YtocniclkooiggaaDoor

namespace Go.Proofs.YtocniclkooiggaaDoor
open Go.RowKit

/-- The number of a month's name among the first k; 0 if it is none of them. -/
def moA (t : ByteArray) : Nat → Nat
  | 0 => 0
  | k + 1 => if (t.toList == (moS (k + 1)).toList) then k + 1 else moA t k
theorem moA_yes {t : ByteArray} {k : Nat} (h : (t.toList == (moS (k + 1)).toList) = true) : moA t (k + 1) = k + 1 := if_pos h
theorem moA_no {t : ByteArray} {k : Nat} (h : (t.toList == (moS (k + 1)).toList) = false) : moA t (k + 1) = moA t k := if_neg (by rw [h]; decide)
theorem moA_le (t : ByteArray) : ∀ k, moA t k ≤ k
  | 0 => Nat.le_refl _
  | k + 1 => by
    unfold moA
    have := moA_le t k
    split <;> omega
def secN (y : Int) (m : Nat) (d h mi se : Int) : Int := 86400 * dayN y m d + 3600 * h + 60 * mi + se
/-- What Parse makes of the parts. -/
def dateQ (s : ByteArray) (d c y h mi se : Int) (m : Nat) : Option Int :=
  if d < 0 ∨ c < 0 ∨ y < 0 ∨ h < 0 ∨ 23 < h ∨ mi < 0 ∨ 59 < mi ∨ se < 0 ∨ 59 < se then none
  else if okD (100 * c + y) m d then (if ((fmtS (secN (100 * c + y) m d h mi se)).toList == s.toList) then some (secN (100 * c + y) m d h mi se) else none) else none
def dateP (s : ByteArray) : Option Int :=
  if s.size = 29 then dateQ s (num2 (s.extract 5 7)) (num2 (s.extract 12 14)) (num2 (s.extract 14 16)) (num2 (s.extract 17 19)) (num2 (s.extract 20 22)) (num2 (s.extract 23 25)) (moA (s.extract 8 11) 12) else none
def dpV : Option Int → Value
  | some n => .tuple #[.int .i64 n, .nilIface]
  | none => .tuple #[.int .i64 0, errV 2]
theorem dateQ_bad {s : ByteArray} {d c y h mi se : Int} {m : Nat} (hb : d < 0 ∨ c < 0 ∨ y < 0 ∨ h < 0 ∨ 23 < h ∨ mi < 0 ∨ 59 < mi ∨ se < 0 ∨ 59 < se) : dpV (dateQ s d c y h mi se m) = .tuple #[.int .i64 0, errV 2] := by unfold dateQ; rw [if_pos hb]; rfl
theorem dateQ_day {s : ByteArray} {d c y h mi se : Int} {m : Nat} (hd : ¬ okD (100 * c + y) m d) : dpV (dateQ s d c y h mi se m) = .tuple #[.int .i64 0, errV 2] := by unfold dateQ; rw [if_neg hd]; split <;> rfl
theorem dateQ_txt {s : ByteArray} {d c y h mi se : Int} {m : Nat} (hd : ((fmtS (secN (100 * c + y) m d h mi se)).toList == s.toList) = false) : dpV (dateQ s d c y h mi se m) = .tuple #[.int .i64 0, errV 2] := by unfold dateQ; rw [hd]; split <;> (try split) <;> rfl
theorem dateQ_yes {s : ByteArray} {d c y h mi se : Int} {m : Nat} (hb : ¬ (d < 0 ∨ c < 0 ∨ y < 0 ∨ h < 0 ∨ 23 < h ∨ mi < 0 ∨ 59 < mi ∨ se < 0 ∨ 59 < se)) (hk : okD (100 * c + y) m d)
    (hd : ((fmtS (secN (100 * c + y) m d h mi se)).toList == s.toList) = true) : dpV (dateQ s d c y h mi se m) = .tuple #[.int .i64 (secN (100 * c + y) m d h mi se), .nilIface] := by unfold dateQ; rw [if_neg hb, if_pos hk, hd]; rfl
def moV : Array Value := #[.string (moS 1), .string (moS 2), .string (moS 3), .string (moS 4), .string (moS 5), .string (moS 6), .string (moS 7), .string (moS 8), .string (moS 9), .string (moS 10), .string (moS 11), .string (moS 12)]
set_option maxRecDepth 100000 in
theorem mo_index (k : Nat) (hk : k < 12) (w : World) : (Instr.index 126 (.agg moV) (.int .i64 (k : Nat))).run Tryd.prog w = .ok (.string (moS (k + 1))) w := by
  have : k = 0 ∨ k = 1 ∨ k = 2 ∨ k = 3 ∨ k = 4 ∨ k = 5 ∨ k = 6 ∨ k = 7 ∨ k = 8 ∨ k = 9 ∨ k = 10 ∨ k = 11 := by omega
  rcases this with h | h | h | h | h | h | h | h | h | h | h | h <;> subst h <;> rfl
theorem GlH.moR {w : World} (h : GlH w) : w.rangeAt 0 0 moV.toList := by
  intro j v hv
  have hj : j < 12 := by
    have := (List.getElem?_eq_some_iff.1 hv).1
    exact this
  have := h.monS (m := j + 1) (by omega) (by omega)
  rw [Nat.zero_add]
  rw [Nat.add_sub_cancel] at this
  rw [this]
  have : j = 0 ∨ j = 1 ∨ j = 2 ∨ j = 3 ∨ j = 4 ∨ j = 5 ∨ j = 6 ∨ j = 7 ∨ j = 8 ∨ j = 9 ∨ j = 10 ∨ j = 11 := by omega
  rcases this with h | h | h | h | h | h | h | h | h | h | h | h <;> subst h <;> exact hv
theorem mo_load {w : World} (h : GlH w) : (Instr.loadAt 126 (.pointer (some ⟨0, 0, none⟩))).run Tryd.prog w = .ok (.agg moV) w :=
  run_loadAt_mid (P := Tryd.prog) w _ 0 126 moV.toList _ h.moR Tryd.underlying126 rfl (by kernel_rfl)

set_option maxHeartbeats 4000000 in
set_option maxRecDepth 100000 in
theorem http_Parse (s : ByteArray) (w : World) (_hs : s.size ≤ 140737488351232) (hg : GlH w) :
    Calls Tryd.prog 60 #[.string s] w fun e w' => e = .returned (dpV (dateP s)) ∧ Ext w w' := by
  by_cases h29 : s.size = 29
  rotate_left
  · have Hn := Lib.hid (show Value.tuple #[.int .i64 0, errV 2] = dpV (dateP s) by unfold dateP; rw [if_neg h29]; rfl)
    have hz : ((s.size : Int) == 29) = false := by rw [beq_eq_false_iff_ne]; omega
    go_enter Tryd.func60, Tryd.ntmps60
    go_wp2_with fail
    all_goals (go_ret2; exact ⟨ret_v Hn.out, Ext.refl _⟩)
  have Hp : dateP s = dateQ s (num2 (s.extract 5 7)) (num2 (s.extract 12 14)) (num2 (s.extract 14 16)) (num2 (s.extract 17 19)) (num2 (s.extract 20 22)) (num2 (s.extract 23 25)) (moA (s.extract 8 11) 12) := if_pos h29
  rw [Hp]; clear Hp
  obtain ⟨T1, hx1⟩ : ∃ T, s.extract 5 7 = T := ⟨_, rfl⟩
  obtain ⟨T2, hx2⟩ : ∃ T, s.extract 12 14 = T := ⟨_, rfl⟩
  obtain ⟨T3, hx3⟩ : ∃ T, s.extract 14 16 = T := ⟨_, rfl⟩
  obtain ⟨T4, hx4⟩ : ∃ T, s.extract 17 19 = T := ⟨_, rfl⟩
  obtain ⟨T5, hx5⟩ : ∃ T, s.extract 20 22 = T := ⟨_, rfl⟩
  obtain ⟨T6, hx6⟩ : ∃ T, s.extract 23 25 = T := ⟨_, rfl⟩
  obtain ⟨T7, hx7⟩ : ∃ T, s.extract 8 11 = T := ⟨_, rfl⟩
  obtain ⟨m, hM⟩ : ∃ m, moA T7 12 = m := ⟨_, rfl⟩
  have hm12 : m ≤ 12 := by rw [← hM]; exact moA_le T7 12
  rw [hx1, hx2, hx3, hx4, hx5, hx6, hx7, hM]
  have N1 := Lib.hid (fun w => http_number T1 w (by rw [← hx1, ByteArray.size_extract]; omega))
  have B1 := num2_bd T1
  generalize num2 T1 = d at *
  have N2 := Lib.hid (fun w => http_number T2 w (by rw [← hx2, ByteArray.size_extract]; omega))
  have B2 := num2_bd T2
  generalize num2 T2 = c at *
  have N3 := Lib.hid (fun w => http_number T3 w (by rw [← hx3, ByteArray.size_extract]; omega))
  have B3 := num2_bd T3
  generalize num2 T3 = y at *
  have N4 := Lib.hid (fun w => http_number T4 w (by rw [← hx4, ByteArray.size_extract]; omega))
  have B4 := num2_bd T4
  generalize num2 T4 = h at *
  have N5 := Lib.hid (fun w => http_number T5 w (by rw [← hx5, ByteArray.size_extract]; omega))
  have B5 := num2_bd T5
  generalize num2 T5 = mi at *
  have N6 := Lib.hid (fun w => http_number T6 w (by rw [← hx6, ByteArray.size_extract]; omega))
  have B6 := num2_bd T6
  generalize num2 T6 = se at *
  have Hbad := Lib.hid (fun m => @dateQ_bad s d c y h mi se m)
  have Hday := Lib.hid (fun m => @dateQ_day s d c y h mi se m)
  have Htxt := Lib.hid (fun m => @dateQ_txt s d c y h mi se m)
  have Hyes := Lib.hid (fun m => @dateQ_yes s d c y h mi se m)
  go_enter Tryd.func60, Tryd.ntmps60
  go_wp2_with fail
  have hE := (Ext.refl w).drew
  go_region_held3 (fun _ => True) (trivial)
    (first
      | (go_at_call_of 70 T1; refine (N1.out _).mono ?_; rintro e w2 ⟨rfl, hb2⟩; have hE := hE.trans hb2)
      | (go_at_call_of 70 T2; refine (N2.out _).mono ?_; rintro e w2 ⟨rfl, hb2⟩; have hE := hE.trans hb2)
      | (go_at_call_of 70 T3; refine (N3.out _).mono ?_; rintro e w2 ⟨rfl, hb2⟩; have hE := hE.trans hb2))
  go_wp2_with fail
  have hE := hE.drew
  go_region_held3 (fun _ => True) (trivial)
    (first
      | (go_at_call_of 70 T4; refine (N4.out _).mono ?_; rintro e w2 ⟨rfl, hb2⟩; have hE := hE.trans hb2)
      | (go_at_call_of 70 T5; refine (N5.out _).mono ?_; rintro e w2 ⟨rfl, hb2⟩; have hE := hE.trans hb2)
      | (go_at_call_of 70 T6; refine (N6.out _).mono ?_; rintro e w2 ⟨rfl, hb2⟩; have hE := hE.trans hb2))
  have hg' := hg.ext hE
  have c1 := hg'.monS (m := 1) (by decide) (by decide)
  have c2 := hg'.monS (m := 2) (by decide) (by decide)
  have c3 := hg'.monS (m := 3) (by decide) (by decide)
  have c4 := hg'.monS (m := 4) (by decide) (by decide)
  have c5 := hg'.monS (m := 5) (by decide) (by decide)
  have c6 := hg'.monS (m := 6) (by decide) (by decide)
  have c7 := hg'.monS (m := 7) (by decide) (by decide)
  have c8 := hg'.monS (m := 8) (by decide) (by decide)
  have c9 := hg'.monS (m := 9) (by decide) (by decide)
  have c10 := hg'.monS (m := 10) (by decide) (by decide)
  have c11 := hg'.monS (m := 11) (by decide) (by decide)
  have c12 := hg'.monS (m := 12) (by decide) (by decide)
  simp only [Nat.reduceSub] at c1 c2 c3 c4 c5 c6 c7 c8 c9 c10 c11 c12
  go_wp2_with fail
  have HM := Lib.hid hM; clear hM
  clear c1 c2 c3 c4 c5 c6 c7 c8 c9 c10 c11 c12
  go_loopw [10, 41] (fun m i wr => ∃ k : Nat, k ≤ 12 ∧ m = .int .i64 (moA T7 k : Nat) ∧ i = .int .i64 (k : Nat) ∧ wr = w2) (fun _ i _ => 12 - (intOf i).toNat)
  case atStart => exact ⟨0, by omega, rfl, rfl, rfl⟩
  case round =>
    obtain ⟨k, hk, hmk, rfl, rfl⟩ := hrel
    by_cases hlt : k < 12
    · subst hmk
      have hix := mo_index k hlt
      unfold moV at hix
      generalize ht : moS (k + 1) = t at *
      cases he : (T7.toList == t.toList)
      · have Hm := Lib.hid (show moA T7 (k + 1) = moA T7 k from moA_no (by rw [ht]; exact he))
        go_wp2_with fail
        go_roundw
        case rel => exact ⟨k + 1, by omega, by rw [Hm.out], by go_num, trivial⟩
        case measure => simp [intOf]; omega
      · have Hm := Lib.hid (show moA T7 (k + 1) = k + 1 from moA_yes (by rw [ht]; exact he))
        go_wp2_with fail
        go_roundw
        case rel => exact ⟨k + 1, by omega, by rw [Hm.out]; go_num, by go_num, trivial⟩
        case measure => simp [intOf]; omega
    · obtain rfl : k = 12 := by omega
      rw [HM.out] at hmk
      subst hmk
      have Hbad := Lib.hid (Hbad.out m)
      have Hday := Lib.hid (Hday.out m)
      have Htxt := Lib.hid (Htxt.out m)
      have Hyes := Lib.hid (Hyes.out m)
      by_cases a0 : d < 0
      · have Hn := Lib.hid (Hbad.out (by omega))
        go_wp2_with fail
        all_goals (go_ret2; exact ⟨ret_v Hn.out.symm, hE⟩)
      by_cases a1 : c < 0
      · have Hn := Lib.hid (Hbad.out (by omega))
        go_wp2_with fail
        all_goals (go_ret2; exact ⟨ret_v Hn.out.symm, hE⟩)
      by_cases a2 : y < 0
      · have Hn := Lib.hid (Hbad.out (by omega))
        go_wp2_with fail
        all_goals (go_ret2; exact ⟨ret_v Hn.out.symm, hE⟩)
      by_cases a3 : h < 0
      · have Hn := Lib.hid (Hbad.out (by omega))
        go_wp2_with fail
        all_goals (go_ret2; exact ⟨ret_v Hn.out.symm, hE⟩)
      by_cases a4 : 23 < h
      · have Hn := Lib.hid (Hbad.out (by omega))
        go_wp2_with fail
        all_goals (go_ret2; exact ⟨ret_v Hn.out.symm, hE⟩)
      by_cases a5 : mi < 0
      · have Hn := Lib.hid (Hbad.out (by omega))
        go_wp2_with fail
        all_goals (go_ret2; exact ⟨ret_v Hn.out.symm, hE⟩)
      by_cases a6 : 59 < mi
      · have Hn := Lib.hid (Hbad.out (by omega))
        go_wp2_with fail
        all_goals (go_ret2; exact ⟨ret_v Hn.out.symm, hE⟩)
      by_cases a7 : se < 0
      · have Hn := Lib.hid (Hbad.out (by omega))
        go_wp2_with fail
        all_goals (go_ret2; exact ⟨ret_v Hn.out.symm, hE⟩)
      by_cases a8 : 59 < se
      · have Hn := Lib.hid (Hbad.out (by omega))
        go_wp2_with fail
        all_goals (go_ret2; exact ⟨ret_v Hn.out.symm, hE⟩)
      have Hok := Lib.hid (show ¬ (d < 0 ∨ c < 0 ∨ y < 0 ∨ h < 0 ∨ 23 < h ∨ mi < 0 ∨ 59 < mi ∨ se < 0 ∨ 59 < se) by omega)
      have hdy := http_Day (100 * c + y) m d _ (by omega) (by omega) hm12 (by omega) (by omega) hg'
      by_cases hok : okD (100 * c + y) m d
      rotate_left
      · have Hn := Lib.hid (Hday.out hok)
        rw [dayV_no hok, show errV 1 = .iface 85 (.int .i64 1) from rfl] at hdy
        have Hd := Lib.hid hdy; clear hdy hok
        go_wp2_with fail
        refine Hd.out.mono ?_; rintro e w3 ⟨rfl, rfl⟩
        go_wp2_with fail
        all_goals (go_ret2; exact ⟨ret_v Hn.out.symm, hE⟩)
      rw [dayV_yes hok] at hdy
      have Hd := Lib.hid hdy; clear hdy
      obtain ⟨e0, e1⟩ := day_bd hok
      have Hyes := Lib.hid (Hyes.out Hok.out hok)
      unfold secN at Htxt Hyes
      clear hok
      generalize dayN (100 * c + y) m d = D at *
      have hfm := Lib.hid (fun w => http_Format (86400 * D + 3600 * h + 60 * mi + se) w (by omega) (by omega))
      cases hq : ((fmtS (86400 * D + 3600 * h + 60 * mi + se)).toList == s.toList)
      · have Hn := Lib.hid (Htxt.out hq)
        go_wp2_with fail
        refine Hd.out.mono ?_; rintro e w3 ⟨rfl, rfl⟩
        go_wp2_with fail
        refine (hfm.out _ hg').mono ?_; rintro e w4 ⟨rfl, hb4⟩
        go_wp2_with fail
        all_goals (go_ret2; exact ⟨ret_v Hn.out.symm, hE.trans hb4⟩)
      · have Hn := Lib.hid (Hyes.out hq)
        go_wp2_with fail
        refine Hd.out.mono ?_; rintro e w3 ⟨rfl, rfl⟩
        go_wp2_with fail
        refine (hfm.out _ hg').mono ?_; rintro e w4 ⟨rfl, hb4⟩
        go_wp2_with fail
        all_goals (go_ret2; exact ⟨ret_v Hn.out.symm, hE.trans hb4⟩)
end Go.Proofs.YtocniclkooiggaaDoor

namespace Go.Proofs.YtocniclkooiggaaDoor

theorem secN_bd {y c y' : Int} {m : Nat} {d h mi se : Int} (hb : ¬ (d < 0 ∨ c < 0 ∨ y' < 0 ∨ h < 0 ∨ 23 < h ∨ mi < 0 ∨ 59 < mi ∨ se < 0 ∨ 59 < se)) (hk : okD y m d) : 0 ≤ secN y m d h mi se ∧ secN y m d h mi se ≤ 253402300799 := by
  have := day_bd hk
  unfold secN
  omega
theorem dateP_bd {s : ByteArray} {n : Int} (h : dateP s = some n) : 0 ≤ n ∧ n ≤ 253402300799 := by
  unfold dateP at h
  split at h
  · unfold dateQ at h
    split at h
    · cases h
    · rename_i hb
      split at h
      · rename_i hk
        split at h
        · injection h with h
          rw [← h]
          exact secN_bd hb hk
        · cases h
      · cases h
  · cases h
theorem dateP_fmt {s : ByteArray} {n : Int} (h : dateP s = some n) : fmtS n = s := by
  unfold dateP at h
  split at h
  · unfold dateQ at h
    split at h
    · cases h
    · split at h
      · split at h
        · rename_i he
          injection h with h
          rw [← h]
          exact eqS_iff.1 he
        · cases h
      · cases h
  · cases h
theorem num_two {n : Int} (h0 : 0 ≤ n) (h1 : n ≤ 99) : num2 (twoS n) = n := by
  have : ∀ k : Fin 100, num2 (twoS (k.val : Int)) = (k.val : Int) := by decide +kernel
  have := this ⟨n.toNat, by omega⟩
  simp only at this
  rwa [show ((n.toNat : Nat) : Int) = n by omega] at this
theorem mo_moS {m : Nat} (h1 : 1 ≤ m) (h2 : m ≤ 12) : moA (moS m) 12 = m := by
  have : ∀ k : Fin 12, moA (moS (k.val + 1)) 12 = k.val + 1 := by decide +kernel
  have := this ⟨m - 1, by omega⟩
  simp only at this
  rwa [show m - 1 + 1 = m by omega] at this
theorem three {s : ByteArray} (h : s.size = 3) : ∃ a b c, s = ⟨#[a, b, c]⟩ := by
  obtain ⟨⟨l⟩⟩ := s
  have : l.length = 3 := h
  match l, this with
  | [a, b, c], _ => exact ⟨a, b, c, rfl⟩
theorem catS_list (a b c p q d e f r s t u v w x y z y' : UInt8) : (catS ⟨#[a, b, c]⟩ ⟨#[p, q]⟩ ⟨#[d, e, f]⟩ ⟨#[r, s]⟩ ⟨#[t, u]⟩ ⟨#[v, w]⟩ ⟨#[x, y]⟩ ⟨#[z, y']⟩).data.toList =
    [a, b, c, 44, 32, p, q, 32, d, e, f, 32, r, s, t, u, 32, v, w, 58, x, y, 58, z, y', 32, 71, 77, 84] := by
  unfold catS
  simp only [data_append]
  rfl
theorem ext_list {S : ByteArray} {l : List UInt8} (h : S.data.toList = l) (i j : Nat) : (S.extract i j).data.toList = (l.drop i).take (j - i) := by
  rw [← ByteArray.toList_eq, Lib.extract_toList, h]
theorem dateP_fmtS {n : Int} (h0 : 0 ≤ n) (h1 : n ≤ 253402300799) : dateP (fmtS n) = some n := by
  have hd0 : 0 ≤ n / 86400 := by omega
  have hd1 : n / 86400 ≤ 2932896 := by omega
  obtain ⟨hk, hday⟩ := date_ok hd0 hd1
  obtain ⟨y0, y1, m0, m1, d0, d1⟩ := id hk
  have hml := ml_bd (yOf (n / 86400)) (mOf (n / 86400))
  have hf : ∀ Y : ByteArray, Y = fmtS n → Y.size = 29 → num2 (Y.extract 5 7) = dOf (n / 86400) → num2 (Y.extract 12 14) = yOf (n / 86400) / 100 → num2 (Y.extract 14 16) = yOf (n / 86400) % 100 →
      num2 (Y.extract 17 19) = n % 86400 / 3600 → num2 (Y.extract 20 22) = n % 86400 / 60 % 60 → num2 (Y.extract 23 25) = n % 86400 % 60 → moA (Y.extract 8 11) 12 = mOf (n / 86400) → dateP Y = some n := by
    intro Y hY hs e1 e2 e3 e4 e5 e6 e7
    unfold dateP
    rw [if_pos hs, e1, e2, e3, e4, e5, e6, e7]
    unfold dateQ
    rw [if_neg (by omega), show 100 * (yOf (n / 86400) / 100) + yOf (n / 86400) % 100 = yOf (n / 86400) by omega, if_pos hk]
    have hsec : secN (yOf (n / 86400)) (mOf (n / 86400)) (dOf (n / 86400)) (n % 86400 / 3600) (n % 86400 / 60 % 60) (n % 86400 % 60) = n := by
      unfold secN; rw [hday]; omega
    rw [hsec, hY, if_pos (eqS_iff.2 rfl)]
  obtain ⟨a, b, c, hw⟩ := three (wdS_size (d := n / 86400))
  obtain ⟨d, e, f, hm⟩ := three (moS_size m0 m1)
  have key : fmtS n = catS ⟨#[a, b, c]⟩ (twoS (dOf (n / 86400))) ⟨#[d, e, f]⟩ (twoS (yOf (n / 86400) / 100)) (twoS (yOf (n / 86400) % 100)) (twoS (n % 86400 / 3600)) (twoS (n % 86400 / 60 % 60)) (twoS (n % 86400 % 60)) := by
    unfold fmtS; rw [hw, hm]
  have hl := catS_list a b c (digU (dOf (n / 86400) / 10)) (digU (dOf (n / 86400) % 10)) d e f (digU (yOf (n / 86400) / 100 / 10)) (digU (yOf (n / 86400) / 100 % 10)) (digU (yOf (n / 86400) % 100 / 10)) (digU (yOf (n / 86400) % 100 % 10))
    (digU (n % 86400 / 3600 / 10)) (digU (n % 86400 / 3600 % 10)) (digU (n % 86400 / 60 % 60 / 10)) (digU (n % 86400 / 60 % 60 % 10)) (digU (n % 86400 % 60 / 10)) (digU (n % 86400 % 60 % 10))
  unfold twoS at key
  rw [← key] at hl
  refine hf (fmtS n) rfl ?_ ?_ ?_ ?_ ?_ ?_ ?_ ?_
  · have := congrArg List.length hl
    simpa using this
  · rw [show (fmtS n).extract 5 7 = twoS (dOf (n / 86400)) from bytes_ext (by rw [ext_list hl]; rfl)]
    exact num_two (by omega) (by omega)
  · rw [show (fmtS n).extract 12 14 = twoS (yOf (n / 86400) / 100) from bytes_ext (by rw [ext_list hl]; rfl)]
    exact num_two (by omega) (by omega)
  · rw [show (fmtS n).extract 14 16 = twoS (yOf (n / 86400) % 100) from bytes_ext (by rw [ext_list hl]; rfl)]
    exact num_two (by omega) (by omega)
  · rw [show (fmtS n).extract 17 19 = twoS (n % 86400 / 3600) from bytes_ext (by rw [ext_list hl]; rfl)]
    exact num_two (by omega) (by omega)
  · rw [show (fmtS n).extract 20 22 = twoS (n % 86400 / 60 % 60) from bytes_ext (by rw [ext_list hl]; rfl)]
    exact num_two (by omega) (by omega)
  · rw [show (fmtS n).extract 23 25 = twoS (n % 86400 % 60) from bytes_ext (by rw [ext_list hl]; rfl)]
    exact num_two (by omega) (by omega)
  · rw [show (fmtS n).extract 8 11 = moS (mOf (n / 86400)) from bytes_ext (by rw [ext_list hl, hm]; rfl)]
    exact mo_moS m0 m1
end Go.Proofs.YtocniclkooiggaaDoor

namespace Go.Proofs.YtocniclkooiggaaDoor

def sameTo (a b : List Fd) (k : Nat) : Bool := (a.take k).all fun x => decide (allS a x.1 = allS b x.1)
/-- Whether two lists of fields have the same values for each name, in order. -/
def sameS (a b : List Fd) : Bool := decide (a.length = b.length) && a.all fun x => decide (allS a x.1 = allS b x.1)

theorem mem_of_counts {α : Type} [BEq α] [LawfulBEq α] : ∀ (ka kb : List α), (∀ k ∈ ka, ka.count k ≤ kb.count k) → kb.length ≤ ka.length → ∀ y ∈ kb, y ∈ ka
  | [], kb, _, hl, y, hy => by
    have : kb = [] := List.eq_nil_of_length_eq_zero (by simpa using hl)
    subst this; simp at hy
  | k :: ka, kb, hc, hl, y, hy => by
    have hk : k ∈ kb := by
      have := hc k (List.mem_cons_self ..)
      rw [List.count_cons_self] at this
      exact List.count_pos_iff.1 (by omega)
    by_cases e : y = k
    · subst e; exact List.mem_cons_self ..
    · refine List.mem_cons_of_mem _ (mem_of_counts ka (kb.erase k) (fun k' hk' => ?_) ?_ y ((List.mem_erase_of_ne e).2 hy))
      · have := hc k' (List.mem_cons_of_mem _ hk')
        rw [List.count_cons] at this
        rw [List.count_erase]
        by_cases e2 : k == k'
        · simp [e2] at this ⊢; omega
        · simp [e2] at this ⊢; omega
      · rw [List.length_erase_of_mem hk]
        simp only [List.length_cons] at hl
        omega

theorem isN_iff {name : ByteArray} {f : Fd} : isN name f = true ↔ lowS f.1 = lowS name := eqS_iff
theorem allS_key {fs : List Fd} {x y : ByteArray} (h : lowS x = lowS y) : allS fs x = allS fs y := by
  unfold allS
  have : isN x = isN y := by funext f; unfold isN; rw [h]
  rw [this]
def keyS (f : Fd) : List UInt8 := (lowS f.1).data.toList
theorem keyS_iff {f g : Fd} : keyS f = keyS g ↔ lowS f.1 = lowS g.1 := ⟨bytes_ext, fun h => by rw [keyS, keyS, h]⟩
theorem allS_count (fs : List Fd) (x : Fd) : (allS fs x.1).length = (fs.map keyS).count (keyS x) := by
  unfold allS
  rw [List.length_map, List.count, List.countP_map, List.countP_eq_length_filter]
  congr 1
  apply List.filter_congr
  intro f _
  rw [Bool.eq_iff_iff, isN_iff, ← keyS_iff]
  simp

theorem sameS_iff {a b : List Fd} : sameS a b = true ↔ a.length = b.length ∧ ∀ x ∈ a, allS a x.1 = allS b x.1 := by
  simp [sameS, List.all_eq_true]
theorem sameS_half {a b : List Fd} (h : sameS a b = true) : sameS b a = true := by
  rw [sameS_iff] at *
  obtain ⟨hl, ha⟩ := h
  refine ⟨hl.symm, fun y hy => ?_⟩
  have hm := mem_of_counts (a.map keyS) (b.map keyS) (fun k hk => by
    obtain ⟨x, hx, rfl⟩ := List.mem_map.1 hk
    rw [← allS_count, ← allS_count, ha x hx]
    exact Nat.le_refl _) (by simp; omega) (keyS y) (List.mem_map.2 ⟨y, hy, rfl⟩)
  obtain ⟨x, hx, hk⟩ := List.mem_map.1 hm
  rw [allS_key (fs := b) (keyS_iff.1 hk.symm), allS_key (fs := a) (keyS_iff.1 hk.symm)]
  exact (ha x hx).symm
theorem sameS_symm (a b : List Fd) : sameS b a = sameS a b := by
  rw [Bool.eq_iff_iff]
  exact ⟨sameS_half, sameS_half⟩
theorem sameS_refl (a : List Fd) : sameS a a = true := by
  rw [sameS_iff]; exact ⟨rfl, fun _ _ => rfl⟩

theorem sameTo_step {a b : List Fd} {k : Nat} (h : k < a.length) (h1 : sameTo a b k = true) (h2 : allS a a[k].1 = allS b a[k].1) : sameTo a b (k + 1) = true := by
  unfold sameTo at *
  rw [take_step a k h, List.all_append, h1]; simp [h2]
theorem sameS_end {a b : List Fd} (hl : a.length = b.length) (h : sameTo a b a.length = true) : true = sameS a b := by
  unfold sameTo at h
  rw [List.take_of_length_le (Nat.le_refl _)] at h
  unfold sameS
  rw [h, decide_eq_true hl]; rfl
theorem sameS_no {a b : List Fd} {k : Nat} (h : k < a.length) (h2 : allS a a[k].1 ≠ allS b a[k].1) : false = sameS a b := by
  unfold sameS
  have : (a.all fun x => decide (allS a x.1 = allS b x.1)) = false := by
    rw [List.all_eq_false]
    exact ⟨a[k], List.getElem_mem h, by simpa using h2⟩
  rw [this]; simp
theorem sameS_len {a b : List Fd} (h : a.length ≠ b.length) : false = sameS a b := by
  unfold sameS; rw [decide_eq_false h]; rfl
end Go.Proofs.YtocniclkooiggaaDoor

namespace Go.Proofs.YtocniclkooiggaaDoor

theorem lowC_low (c : UInt8) : lowC (lowC c) = lowC c := by
  by_cases h : (65 ≤ c && c ≤ 90) = true
  · have h1 : lowC c = c + 32 := by rw [lowC, if_pos h]
    rw [h1, lowC, if_neg]
    simp only [Bool.and_eq_true, decide_eq_true_eq, UInt8.le_iff_toNat_le, UInt8.toNat_add, not_and, Nat.not_le] at *
    intro _
    have : (65 : UInt8).toNat = 65 := rfl
    have : (90 : UInt8).toNat = 90 := rfl
    have : (32 : UInt8).toNat = 32 := rfl
    omega
  · have h1 : lowC c = c := by rw [lowC, if_neg h]
    rw [h1, h1]
theorem lowS_low (s : ByteArray) : lowS (lowS s) = lowS s := by
  apply bytes_ext
  simp [lowS, lowL, lowC_low]
theorem isN_low (name v : ByteArray) (o : ByteArray) : isN o (lowS name, v) = decide (lowS name = lowS o) := by
  rw [Bool.eq_iff_iff, isN_iff, decide_eq_true_iff, lowS_low]
theorem allS_app (fs gs : List Fd) (o : ByteArray) : allS (fs ++ gs) o = allS fs o ++ allS gs o := by simp [allS]
theorem allS_one_same (name v : ByteArray) : allS [(lowS name, v)] name = [v] := by
  simp [allS, isN_low]
theorem allS_one_other {name o : ByteArray} (v : ByteArray) (h : lowS name ≠ lowS o) : allS [(lowS name, v)] o = [] := by
  simp [allS, isN_low, h]
theorem allS_cons (f : Fd) (fs : List Fd) (o : ByteArray) : allS (f :: fs) o = (if isN o f then [f.2] else []) ++ allS fs o := by
  unfold allS
  by_cases h : isN o f = true
  · simp [h]
  · simp [h]
theorem allS_rem_same (fs : List Fd) (name : ByteArray) : allS (remS fs name) name = [] := by
  unfold allS remS
  rw [List.filter_filter]
  have : (fs.filter fun a => isN name a && !isN name a) = [] := by
    rw [List.filter_eq_nil_iff]; intro a _; simp
  rw [this]; rfl
theorem allS_rem_other (fs : List Fd) {name o : ByteArray} (h : lowS name ≠ lowS o) : allS (remS fs name) o = allS fs o := by
  unfold allS remS
  rw [List.filter_filter]
  congr 1
  apply List.filter_congr
  intro f _
  by_cases h1 : isN o f = true
  · have h2 : isN name f = false := by
      rw [Bool.eq_false_iff]; intro h3
      exact h ((isN_iff.1 h3).symm.trans (isN_iff.1 h1))
    simp [h1, h2]
  · simp [h1]
theorem allS_set_same (name value : ByteArray) : ∀ fs : List Fd, allS (setS name value fs) name = [value]
  | [] => allS_one_same name value
  | f :: r => by
    unfold setS
    by_cases h : isN name f = true
    · rw [if_pos h, allS_cons, allS_rem_same, isN_low]; simp
    · rw [if_neg h, allS_cons, if_neg h, allS_set_same name value r]; rfl
theorem allS_set_other {name o : ByteArray} (value : ByteArray) (hne : lowS name ≠ lowS o) : ∀ fs : List Fd, allS (setS name value fs) o = allS fs o
  | [] => by rw [setS, allS_one_other value hne]; rfl
  | f :: r => by
    unfold setS
    by_cases h : isN name f = true
    · have h2 : isN o f = false := by
        rw [Bool.eq_false_iff]; intro h3
        exact hne ((isN_iff.1 h).symm.trans (isN_iff.1 h3))
      rw [if_pos h, allS_cons, allS_cons, allS_rem_other r hne, isN_low, h2]; simp [hne]
    · rw [if_neg h, allS_cons, allS_cons, allS_set_other value hne r]
theorem allS_add_same (fs : List Fd) (name value : ByteArray) : allS (fs ++ [(lowS name, value)]) name = allS fs name ++ [value] := by rw [allS_app, allS_one_same]
theorem allS_add_other (fs : List Fd) {name o : ByteArray} (value : ByteArray) (h : lowS name ≠ lowS o) : allS (fs ++ [(lowS name, value)]) o = allS fs o := by rw [allS_app, allS_one_other value h, List.append_nil]

theorem setS_bsz {B : Nat} {name value : ByteArray} (h1 : name.size ≤ B) (h2 : value.size ≤ B) : ∀ {fs : List Fd}, Bsz B fs → Bsz B (setS name value fs)
  | [], _ => by intro f hf; simp [setS] at hf; subst hf; exact ⟨by rw [lowS_size]; exact h1, h2⟩
  | g :: r, h => by
    have hr : Bsz B r := fun f hf => h f (List.mem_cons_of_mem _ hf)
    unfold setS
    split
    · intro f hf
      rcases List.mem_cons.1 hf with rfl | hf
      · exact ⟨by rw [lowS_size]; exact h1, h2⟩
      · exact hr f ((List.mem_filter.1 hf).1)
    · intro f hf
      rcases List.mem_cons.1 hf with rfl | hf
      · exact h _ (List.mem_cons_self ..)
      · exact setS_bsz h1 h2 hr f hf
theorem addS_bsz {B : Nat} {name value : ByteArray} (h1 : name.size ≤ B) (h2 : value.size ≤ B) {fs : List Fd} (h : Bsz B fs) : Bsz B (fs ++ [(lowS name, value)]) := by
  intro f hf
  rcases List.mem_append.1 hf with hf | hf
  · exact h f hf
  · simp at hf; subst hf; exact ⟨by rw [lowS_size]; exact h1, h2⟩
theorem remS_bsz {B : Nat} {name : ByteArray} {fs : List Fd} (h : Bsz B fs) : Bsz B (remS fs name) := fun f hf => h f ((List.mem_filter.1 hf).1)
end Go.Proofs.YtocniclkooiggaaDoor

namespace Go.Proofs.YtocniclkooiggaaDoor

/-! Directives within their bounds. -/
def bdT (n : Int) : Prop := -1 ≤ n ∧ n ≤ 2147483647
def bdD (d : D) : Prop := bdT d.n0 ∧ bdT d.n1 ∧ bdT d.n2 ∧ bdT d.n3 ∧ bdT d.n4 ∧ bdT d.n5
theorem timeV_bd (s : ByteArray) (th : Bool) {bad miss : Int} (h1 : 0 ≤ bad) (h2 : 0 ≤ miss) (h3 : bad ≤ 2147483647) (h4 : miss ≤ 2147483647) : 0 ≤ timeV s th bad miss ∧ timeV s th bad miss ≤ 2147483647 := by
  unfold timeV
  have := numQ_range s
  split
  · split
    · exact this
    · exact ⟨h1, h3⟩
  · exact ⟨h2, h4⟩
theorem lst_bd {a t : Int} (ha : bdT a) (ht : 0 ≤ t ∧ t ≤ 2147483647) : bdT (lst a t) := by
  unfold lst bdT at *
  split
  · omega
  · split <;> omega
theorem stepK_bd {d : D} {t u v : Int} (k : Nat) (h : bdD d) (ht : 0 ≤ t ∧ t ≤ 2147483647) (hu : 0 ≤ u ∧ u ≤ 2147483647) (hv : 0 ≤ v ∧ v ≤ 2147483647) : bdD (stepK d k t u v) := by
  obtain ⟨h0, h1, h2, h3, h4, h5⟩ := h
  unfold stepK
  split
  case h_1 => exact ⟨h0, h1, h2, h3, h4, h5⟩
  case h_2 => exact ⟨h0, h1, h2, h3, h4, h5⟩
  case h_3 => exact ⟨h0, h1, h2, h3, h4, h5⟩
  case h_4 => exact ⟨h0, h1, h2, h3, h4, h5⟩
  case h_5 => exact ⟨h0, h1, h2, h3, h4, h5⟩
  case h_6 => exact ⟨h0, h1, h2, h3, h4, h5⟩
  case h_7 => exact ⟨h0, h1, h2, h3, h4, h5⟩
  case h_8 => exact ⟨lst_bd h0 ht, h1, h2, h3, h4, h5⟩
  case h_9 => exact ⟨h0, lst_bd h1 ht, h2, h3, h4, h5⟩
  case h_10 => exact ⟨h0, h1, lst_bd h2 ht, h3, h4, h5⟩
  case h_11 => exact ⟨h0, h1, h2, lst_bd h3 ht, h4, h5⟩
  case h_12 => exact ⟨h0, h1, h2, h3, lst_bd h4 hu, h5⟩
  case h_13 => exact ⟨h0, h1, h2, h3, h4, by unfold bdT at *; show -1 ≤ max d.n5 v ∧ max d.n5 v ≤ 2147483647; omega⟩
  case h_14 => exact ⟨h0, h1, h2, h3, h4, h5⟩
theorem stepD_bd {d : D} (x : ByteArray) (h : bdD d) : bdD (stepD d x) :=
  stepK_bd _ h (timeV_bd _ _ (by decide) (by decide) (by decide) (by decide)) (timeV_bd _ _ (by decide) (by decide) (by decide) (by decide)) (timeV_bd _ _ (by decide) (by decide) (by decide) (by decide))
theorem fold_bd : ∀ (l : List ByteArray) {d : D}, bdD d → bdD (l.foldl stepD d)
  | [], _, h => h
  | x :: l, _, h => fold_bd l (stepD_bd x h)
theorem stepV_bd {d : D} (v : ByteArray) (h : bdD d) : bdD (stepV d v) := by
  unfold stepV
  split
  · exact fold_bd _ h
  · exact h
theorem vals_bd : ∀ (l : List ByteArray) {d : D}, bdD d → bdD (l.foldl stepV d)
  | [], _, h => h
  | x :: l, _, h => vals_bd l (stepV_bd x h)
theorem none_bd : bdD noneD := by unfold bdD bdT noneD; simp
theorem dirS_bd (vs : List ByteArray) : bdD (dirS vs) := vals_bd vs none_bd
theorem dirS_snoc (vs : List ByteArray) (v : ByteArray) : dirS (vs ++ [v]) = stepV (dirS vs) v := by unfold dirS; rw [List.foldl_append]; rfl

/-! Dates. -/
def dateN : ByteArray := ⟨#[100, 97, 116, 101]⟩
def expN : ByteArray := ⟨#[101, 120, 112, 105, 114, 101, 115]⟩
def lmN : ByteArray := ⟨#[108, 97, 115, 116, 45, 109, 111, 100, 105, 102, 105, 101, 100]⟩
/-- The moment of the one value of a name. -/
def oneP : List ByteArray → Option Int
  | [v] => dateP v
  | _ => none
def dateS (fs : List Fd) (name : ByteArray) : Option Int := oneP (allS fs name)
theorem oneP_no {l : List ByteArray} (h : l.length ≠ 1) : oneP l = none := by
  match l, h with
  | [], _ => rfl
  | [a], h => exact absurd rfl h
  | a :: b :: r, _ => rfl
theorem oneP_bd {l : List ByteArray} {n : Int} (h : oneP l = some n) : 0 ≤ n ∧ n ≤ 253402300799 := by
  match l, h with
  | [v], h => exact dateP_bd h
theorem dateS_bd {fs : List Fd} {name : ByteArray} {n : Int} (h : dateS fs name = some n) : 0 ≤ n ∧ n ≤ 253402300799 := oneP_bd h
def dtV (o : Option Int) : Value := .tuple #[.int .i64 (o.getD 0), .bool o.isSome]

/-! Lifetimes. -/
def negS (st : Int) : Bool := st == 404 || st == 405 || st == 410 || st == 414 || st == 501
def cacL : List Int := [200, 203, 204, 206, 300, 301, 308]
def cacS (st : Int) : Bool := cacL.contains st || negS st
def ccD (fs : List Fd) : D := dirS (allS fs ccN)
theorem ccD_bd (fs : List Fd) : bdD (ccD fs) := dirS_bd _
def exO (a b : Option Int) : Int := match a, b with
  | some x, some y => 1000 * max 0 (y - x)
  | _, _ => 0
def exS (fs : List Fd) : Int := exO (dateS fs dateN) (dateS fs expN)
def gsO (st : Int) (a b : Option Int) : Option Int := match a, b with
  | some x, some y => if cacS st && decide (y < x) then some (min (if negS st then 10000 else 86400000) (1000 * (x - y) / 10)) else none
  | _, _ => none
def gsS (st : Int) (fs : List Fd) : Option Int := gsO st (dateS fs dateN) (dateS fs lmN)
def hasF (fs : List Fd) (name : ByteArray) : Bool := decide (0 < (allS fs name).length)
def xplS (fs : List Fd) : Bool := decide (0 ≤ (ccD fs).n1) || decide (0 ≤ (ccD fs).n0) || hasF fs expN
def ofS (st : Int) (fs : List Fd) : Int × Int :=
  if 0 ≤ (ccD fs).n1 then (1000 * (ccD fs).n1, 1)
  else if 0 ≤ (ccD fs).n0 then (1000 * (ccD fs).n0, 2)
  else if hasF fs expN then (exS fs, 3)
  else match gsS st fs with
    | some n => (n, 4)
    | none => (0, 5)
def alwS (fs : List Fd) : Int × Int :=
  if (ccD fs).b4 || (ccD fs).b1 || decide (0 ≤ (ccD fs).n1) then (0, 0) else (1000 * max 0 (ccD fs).n2, 1000 * max 0 (ccD fs).n3)
def pairV (p : Int × Int) : Value := .tuple #[.int .i64 p.1, .int .i64 p.2]

theorem exO_bd {a b : Option Int} (ha : ∀ x, a = some x → 0 ≤ x ∧ x ≤ 253402300799) (hb : ∀ x, b = some x → 0 ≤ x ∧ x ≤ 253402300799) : 0 ≤ exO a b ∧ exO a b ≤ 253402300799000 := by
  unfold exO
  cases a with
  | none => simp
  | some x =>
    cases b with
    | none => simp
    | some y =>
      have := ha x rfl
      have := hb y rfl
      simp only []
      omega
theorem exS_bd (fs : List Fd) : 0 ≤ exS fs ∧ exS fs ≤ 253402300799000 := exO_bd (fun _ h => dateS_bd h) (fun _ h => dateS_bd h)
theorem gsO_bd {st : Int} {a b : Option Int} {n : Int} (h : gsO st a b = some n) : 0 ≤ n ∧ n ≤ 86400000 ∧ cacS st = true := by
  unfold gsO at h
  cases a with
  | none => cases h
  | some x =>
    cases b with
    | none => cases h
    | some y =>
      simp only [] at h
      split at h
      · rename_i hc
        injection h with h
        simp only [Bool.and_eq_true, decide_eq_true_eq] at hc
        refine ⟨?_, ?_, hc.1⟩
        · rw [← h]; split <;> omega
        · rw [← h]; split <;> omega
      · cases h
/-- Lifetimes and their kinds within their bounds. -/
theorem ofS_bd (st : Int) (fs : List Fd) :
    0 ≤ (ofS st fs).1 ∧ (ofS st fs).1 ≤ 253402300799000 ∧ (((ofS st fs).2 = 1 ∧ (ofS st fs).1 ≤ 2147483647000) ∨ ((ofS st fs).2 = 2 ∧ (ofS st fs).1 ≤ 2147483647000) ∨ ((ofS st fs).2 = 3 ∧ (ofS st fs).1 ≤ 253402300799000) ∨
      ((ofS st fs).2 = 4 ∧ (ofS st fs).1 ≤ 86400000 ∧ cacS st = true) ∨ ((ofS st fs).2 = 5 ∧ (ofS st fs).1 = 0)) := by
  obtain ⟨h0, h1, h2, h3, h4, h5⟩ := ccD_bd fs
  unfold bdT at *
  have hx := exS_bd fs
  unfold ofS
  by_cases g1 : 0 ≤ (ccD fs).n1
  · rw [if_pos g1]; exact ⟨by show 0 ≤ 1000 * (ccD fs).n1; omega, by show 1000 * (ccD fs).n1 ≤ _; omega, .inl ⟨rfl, by show 1000 * (ccD fs).n1 ≤ _; omega⟩⟩
  rw [if_neg g1]
  by_cases g0 : 0 ≤ (ccD fs).n0
  · rw [if_pos g0]; exact ⟨by show 0 ≤ 1000 * (ccD fs).n0; omega, by show 1000 * (ccD fs).n0 ≤ _; omega, .inr (.inl ⟨rfl, by show 1000 * (ccD fs).n0 ≤ _; omega⟩)⟩
  rw [if_neg g0]
  cases he : hasF fs expN
  · rw [if_neg (by decide)]
    cases hg : gsS st fs with
    | none => simp
    | some n =>
      obtain ⟨a, b, c⟩ := gsO_bd hg
      refine ⟨a, by simp only []; omega, .inr (.inr (.inr (.inl ⟨rfl, b, c⟩)))⟩
  · rw [if_pos rfl]
    exact ⟨hx.1, hx.2, .inr (.inr (.inl ⟨rfl, hx.2⟩))⟩
theorem alwS_bd (fs : List Fd) : 0 ≤ (alwS fs).1 ∧ (alwS fs).1 ≤ 2147483647000 ∧ 0 ≤ (alwS fs).2 ∧ (alwS fs).2 ≤ 2147483647000 := by
  obtain ⟨h0, h1, h2, h3, h4, h5⟩ := ccD_bd fs
  unfold bdT at *
  unfold alwS
  split
  · simp
  · simp only []; omega

/-! LifetimeStrict. -/
def mrW : ByteArray := ⟨#[109, 117, 115, 116, 45, 114, 101, 118, 97, 108, 105, 100, 97, 116, 101]⟩
def ncW : ByteArray := ⟨#[110, 111, 45, 99, 97, 99, 104, 101]⟩
def smW : ByteArray := ⟨#[115, 45, 109, 97, 120, 97, 103, 101, 61, 53]⟩
def prW : ByteArray := ⟨#[112, 114, 111, 120, 121, 45, 114, 101, 118, 97, 108, 105, 100, 97, 116, 101]⟩
theorem stepV_one {d : D} {w : ByteArray} (h1 : (partsS w 44).isSome = true) (h2 : itemsS w = [w]) : stepV d w = stepD d w := by
  unfold stepV; rw [if_pos h1, h2]; rfl
theorem step_mr (d : D) : stepV d mrW = { d with b4 := true } := by
  rw [stepV_one (by decide +kernel) (by decide +kernel)]
  unfold stepD; rw [show kindE (lowS (eqName mrW)) = 4 by decide +kernel]; rfl
theorem step_nc (d : D) : stepV d ncW = { d with b1 := true } := by
  rw [stepV_one (by decide +kernel) (by decide +kernel)]
  unfold stepD; rw [show kindE (lowS (eqName ncW)) = 1 by decide +kernel]; rfl
theorem step_pr (d : D) : stepV d prW = { d with b4 := true } := by
  rw [stepV_one (by decide +kernel) (by decide +kernel)]
  unfold stepD; rw [show kindE (lowS (eqName prW)) = 5 by decide +kernel]; rfl
theorem step_sm (d : D) : stepV d smW = { d with n1 := lst d.n1 5 } := by
  rw [stepV_one (by decide +kernel) (by decide +kernel)]
  unfold stepD; rw [show kindE (lowS (eqName smW)) = 8 by decide +kernel, show timeV (argE smW) (thE smW) 0 0 = 5 by decide +kernel]; rfl
theorem low_cc : lowS ccN = ccN := by decide +kernel
theorem ccD_add (fs : List Fd) (v : ByteArray) : ccD (fs ++ [(lowS ccN, v)]) = stepV (ccD fs) v := by
  unfold ccD; rw [allS_add_same, dirS_snoc]
theorem lst_nn (a : Int) : 0 ≤ lst a 5 := by unfold lst; split <;> (try split) <;> omega
theorem strict_mr (fs : List Fd) : alwS (fs ++ [(lowS ccN, mrW)]) = (0, 0) := by unfold alwS; rw [ccD_add, step_mr]; simp
theorem strict_nc (fs : List Fd) : alwS (fs ++ [(lowS ccN, ncW)]) = (0, 0) := by unfold alwS; rw [ccD_add, step_nc]; simp
theorem strict_pr (fs : List Fd) : alwS (fs ++ [(lowS ccN, prW)]) = (0, 0) := by unfold alwS; rw [ccD_add, step_pr]; simp
theorem strict_sm (fs : List Fd) : alwS (fs ++ [(lowS ccN, smW)]) = (0, 0) := by
  unfold alwS; rw [ccD_add, step_sm]
  have := lst_nn (ccD fs).n1
  simp [this]

/-! LifetimeDates. -/
def datF (a b c : Int) : List Fd := [(dateN, fmtS a), (expN, fmtS b), (lmN, fmtS c)]
theorem low_date : lowS dateN = dateN := by decide +kernel
theorem low_exp : lowS expN = expN := by decide +kernel
theorem low_lm : lowS lmN = lmN := by decide +kernel
theorem d_date_exp : lowS dateN ≠ lowS expN := by decide +kernel
theorem d_date_lm : lowS dateN ≠ lowS lmN := by decide +kernel
theorem d_exp_lm : lowS expN ≠ lowS lmN := by decide +kernel
theorem d_cc_date : lowS ccN ≠ lowS dateN := by decide +kernel
theorem d_cc_exp : lowS ccN ≠ lowS expN := by decide +kernel
theorem d_cc_lm : lowS ccN ≠ lowS lmN := by decide +kernel
theorem isN_same (n v : ByteArray) : isN n (n, v) = true := eqS_iff.2 rfl
theorem isN_diff {n o v : ByteArray} (h : lowS n ≠ lowS o) : isN o (n, v) = false := by
  unfold isN; exact eqS_no h
theorem all_cc_dat (a b c : Int) : allS (datF a b c) ccN = [] := by
  unfold datF allS
  simp [isN_diff d_cc_date.symm, isN_diff d_cc_exp.symm, isN_diff d_cc_lm.symm]
theorem all_date_dat (a b c : Int) : allS (datF a b c) dateN = [fmtS a] := by
  unfold datF allS
  simp [isN_same, isN_diff d_date_exp.symm, isN_diff d_date_lm.symm]
theorem all_exp_dat (a b c : Int) : allS (datF a b c) expN = [fmtS b] := by
  unfold datF allS
  simp [isN_same, isN_diff d_date_exp, isN_diff d_exp_lm.symm]
theorem all_lm_dat (a b c : Int) : allS (datF a b c) lmN = [fmtS c] := by
  unfold datF allS
  simp [isN_same, isN_diff d_exp_lm, isN_diff d_date_lm]
theorem ccD_none {fs : List Fd} (h : allS fs ccN = []) : ccD fs = noneD := by unfold ccD; rw [h]; rfl
theorem of_dates {a b c : Int} (st : Int) (ha : 0 ≤ a ∧ a ≤ 253402300799) (hb : 0 ≤ b ∧ b ≤ 253402300799) : ofS st (datF a b c) = (1000 * max 0 (b - a), 3) := by
  unfold ofS
  rw [ccD_none (all_cc_dat a b c), if_neg (by decide), if_neg (by decide)]
  unfold hasF
  rw [all_exp_dat, if_pos (by simp)]
  unfold exS dateS
  rw [all_date_dat, all_exp_dat]
  simp only [oneP, dateP_fmtS ha.1 ha.2, dateP_fmtS hb.1 hb.2, exO]
theorem of_heur {fs : List Fd} {a c : Int} (st : Int) (h1 : allS fs ccN = []) (h2 : allS fs expN = []) (h3 : dateS fs dateN = some a) (h4 : dateS fs lmN = some c) :
    ofS st fs = if cacS st && decide (c < a) then (min (if negS st then 10000 else 86400000) (1000 * (a - c) / 10), 4) else (0, 5) := by
  unfold ofS
  rw [ccD_none h1, if_neg (by decide), if_neg (by decide)]
  unfold hasF
  rw [h2, if_neg (by decide)]
  unfold gsS
  rw [h3, h4]
  simp only [gsO]
  cases cacS st && decide (c < a) <;> simp
theorem of_heur_dat {a b c : Int} (st : Int) (ha : 0 ≤ a ∧ a ≤ 253402300799) (hc : 0 ≤ c ∧ c ≤ 253402300799) :
    ofS st (remS (datF a b c) expN) = if cacS st && decide (c < a) then (min (if negS st then 10000 else 86400000) (1000 * (a - c) / 10), 4) else (0, 5) := by
  refine of_heur st ?_ (allS_rem_same _ _) ?_ ?_
  · rw [allS_rem_other _ d_cc_exp.symm, all_cc_dat]
  · unfold dateS; rw [allS_rem_other _ d_date_exp.symm, all_date_dat]; exact dateP_fmtS ha.1 ha.2
  · unfold dateS; rw [allS_rem_other _ d_exp_lm, all_lm_dat]; exact dateP_fmtS hc.1 hc.2
theorem neg_cac {st : Int} (h : cacS st = true) : negS st = decide (400 ≤ st) := by
  unfold cacS cacL at h
  simp only [Bool.or_eq_true, List.contains_eq_mem, List.mem_cons, List.not_mem_nil, or_false, decide_eq_true_eq] at h
  unfold negS at *
  rcases h with h | h
  · rcases h with h | h | h | h | h | h | h <;> subst h <;> rfl
  · simp only [Bool.or_eq_true, beq_iff_eq] at h
    rcases h with (((h | h) | h) | h) | h <;> subst h <;> rfl

/-! LifetimeBroken. -/
theorem of_no_exp {fs : List Fd} (st : Int) (h1 : allS fs ccN = []) (h2 : hasF fs expN = true) (h3 : dateS fs dateN = none ∨ dateS fs expN = none) : ofS st fs = (0, 3) := by
  unfold ofS
  rw [ccD_none h1, if_neg (by decide), if_neg (by decide), if_pos h2]
  unfold exS
  rcases h3 with h | h
  · rw [h]; rfl
  · rw [h]; cases dateS fs dateN <;> rfl
theorem of_no_heur {fs : List Fd} (st : Int) (h1 : allS fs ccN = []) (h2 : allS fs expN = []) (h3 : dateS fs dateN = none ∨ dateS fs lmN = none) : ofS st fs = (0, 5) := by
  unfold ofS
  rw [ccD_none h1, if_neg (by decide), if_neg (by decide)]
  unfold hasF
  rw [h2, if_neg (by decide)]
  unfold gsS
  rcases h3 with h | h
  · rw [h]; rfl
  · rw [h]; cases dateS fs dateN <;> rfl
end Go.Proofs.YtocniclkooiggaaDoor

namespace Go.Proofs.YtocniclkooiggaaDoor
open Go.RowKit

set_option maxHeartbeats 2000000 in
set_option maxRecDepth 100000 in
theorem life_date (A : Option Addr) (n c : Nat) (fs : List Fd) (name : ByteArray) (w : World) (hf : RdF w A n fs)
    (hn : n ≤ 1073741824) (hs : name.size ≤ 9223372036854775807) (hsz : Bsz 1048576 fs) (hg : GlH w) :
    Calls Tryd.prog 47 #[.slice A n c, .string name] w fun e w' => e = .returned (dtV (dateS fs name)) ∧ Ext w w' := by
  have HA := Lib.hid (field_All A n c fs name w hf hn hs (fun f hf => Nat.le_trans (hsz f hf).1 (by decide)))
  have hv := bsz_vals (name := name) hsz
  have Hd := Lib.hid (show dateS fs name = oneP (allS fs name) from rfl)
  generalize dateS fs name = D at *
  generalize allS fs name = L at *
  have Hv := Lib.hid hv
  clear hv
  go_enter Tryd.func47, Tryd.ntmps47
  go_wp2_with fail
  refine HA.out.mono ?_; rintro e w1 ⟨A1, n1, c1, rfl, hr1, hc1, hb1⟩
  have hl1 := hr1.lenS
  by_cases h1 : n1 = 1
  · subst h1
    match L, hl1 with
    | [v], _ =>
    obtain ⟨b, o, rfl, hc⟩ := hr1.atS (k := 0) Nat.one_pos
    rw [Nat.add_zero] at hc
    have hc : w1.cell? ⟨b, o, none⟩ = some (.string v) := hc
    have HD := Lib.hid (show D = dateP v from Hd.out)
    have Hvs := Lib.hid (Hv.out v (List.mem_cons_self ..))
    have hP := http_Parse v
    generalize dateP v = P at *
    have HP := Lib.hid hP; clear hP hl1
    go_wp2_with fail
    refine (HP.out _ (by have := Hvs.out; omega) (hg.ext hb1)).mono ?_; rintro e w2 ⟨rfl, hb2⟩
    cases P with
    | none =>
      have HD := Lib.hid (show Value.tuple #[.int .i64 0, .bool false] = dtV D by rw [HD.out]; rfl)
      rw [show dpV none = .tuple #[.int .i64 0, .iface 85 (.int .i64 2)] from rfl]
      go_wp2_with fail
      go_region
      all_goals (try go_wp2_with fail)
      all_goals
        go_ret2
        exact ⟨ret_v HD.out, (hb1.trans hb2).drew⟩
    | some k =>
      have HD := Lib.hid (show Value.tuple #[.int .i64 k, .bool true] = dtV D by rw [HD.out]; rfl)
      rw [show dpV (some k) = .tuple #[.int .i64 k, .nilIface] from rfl]
      go_wp2_with fail
      go_region
      all_goals (try go_wp2_with fail)
      all_goals
        go_ret2
        exact ⟨ret_v HD.out, (hb1.trans hb2).drew⟩
  · have hz : ((n1 : Int) != 1) = true := by simp; omega
    have HD := Lib.hid (show Value.tuple #[.int .i64 0, .bool false] = dtV D by rw [Hd.out, oneP_no (by omega)]; rfl)
    clear hl1 h1
    go_wp2_with fail
    go_ret2
    exact ⟨ret_v HD.out, hb1⟩

theorem dtV_some (k : Int) : dtV (some k) = .tuple #[.int .i64 k, .bool true] := rfl
theorem dtV_none : dtV none = .tuple #[.int .i64 0, .bool false] := rfl

/-! Statuses. -/
theorem ret_b {a b : Bool} (h : a = b) : Ending.returned (.bool a) = .returned (.bool b) := by rw [h]
theorem i_ne {a b : Int} (h : a ≠ b) : (a == b) = false := by rw [beq_eq_false_iff_ne]; exact h
set_option maxHeartbeats 2000000 in
set_option maxRecDepth 100000 in
theorem life_negative (st : Int) (w : World) :
    Calls Tryd.prog 49 #[.int .i64 st] w fun e w' => e = .returned (.bool (negS st)) ∧ w' = w := by
  have Hn := Lib.hid (show negS st = (st == 404 || st == 405 || st == 410 || st == 414 || st == 501) from rfl)
  generalize negS st = N at *
  cases h1 : (st == 404)
  rotate_left
  · have HL := Lib.hid (show true = N by rw [Hn.out, h1]; rfl)
    go_enter Tryd.func49, Tryd.ntmps49
    go_wp2_with fail
    go_ret
    exact ⟨ret_b HL.out, rfl⟩
  cases h2 : (st == 405)
  rotate_left
  · have HL := Lib.hid (show true = N by rw [Hn.out, h1, h2]; rfl)
    go_enter Tryd.func49, Tryd.ntmps49
    go_wp2_with fail
    go_ret
    exact ⟨ret_b HL.out, rfl⟩
  cases h3 : (st == 410)
  rotate_left
  · have HL := Lib.hid (show true = N by rw [Hn.out, h1, h2, h3]; rfl)
    go_enter Tryd.func49, Tryd.ntmps49
    go_wp2_with fail
    go_ret
    exact ⟨ret_b HL.out, rfl⟩
  cases h4 : (st == 414)
  rotate_left
  · have HL := Lib.hid (show true = N by rw [Hn.out, h1, h2, h3, h4]; rfl)
    go_enter Tryd.func49, Tryd.ntmps49
    go_wp2_with fail
    go_ret
    exact ⟨ret_b HL.out, rfl⟩
  cases h5 : (st == 501)
  rotate_left
  · have HL := Lib.hid (show true = N by rw [Hn.out, h1, h2, h3, h4, h5]; rfl)
    go_enter Tryd.func49, Tryd.ntmps49
    go_wp2_with fail
    go_ret
    exact ⟨ret_b HL.out, rfl⟩
  · have HL := Lib.hid (show false = N by rw [Hn.out, h1, h2, h3, h4, h5]; rfl)
    go_enter Tryd.func49, Tryd.ntmps49
    go_wp2_with fail
    go_ret
    exact ⟨ret_b HL.out, rfl⟩
end Go.Proofs.YtocniclkooiggaaDoor

namespace Go.Proofs.YtocniclkooiggaaDoor
open Go.RowKit

theorem infoFld : (Tryd.prog.info? 28).map (fun i => (i.zero, i.size, i.bytes)) = some (some (.agg #[.string ⟨#[]⟩, .string ⟨#[]⟩]), 2, 32) := by kernel_rfl
theorem own_lit (w : World) (cs : Array Value) (e : TypeId) {b : Nat} (hb : b = w.heap.size) (k n : Nat) (h : cs.size = n * k) (hn : n ≤ maxLen) :
    (w.alloc (.cells cs e)).ownsRow w.heap.size e k (.slice (some ⟨b, 0, none⟩) n n) n cs.toList := by
  subst hb
  exact ⟨by simpa using h, .inr ⟨w.heap.size, n, cs, rfl, Nat.le_refl _, heap_alloc_new w _, Nat.le_refl _, hn, h, List.take_of_length_le (by rw [Array.length_toList, h]; exact Nat.le_refl _)⟩⟩
theorem fmap_step {α β : Type} (g : α → List β) (l : List α) (k : Nat) (h : k < l.length) : (l.take (k + 1)).flatMap g = (l.take k).flatMap g ++ g l[k] := by
  rw [take_step l k h, List.flatMap_append, List.flatMap_singleton]
theorem map_step {α β : Type} (g : α → β) (l : List α) (k : Nat) (h : k < l.length) : (l.take (k + 1)).map g = (l.take k).map g ++ [g l[k]] := by
  rw [take_step l k h, List.map_append]; rfl

theorem cells_snoc (X : List ByteArray) (x : ByteArray) : strCells (X ++ [x]) = strCells X ++ [.string x] := List.map_append
theorem notB {b : Bool} (h : b = true) : (!b) = false := by rw [h]; rfl
theorem notB' {b : Bool} (h : b = false) : (!b) = true := by rw [h]; rfl

/-- An own row lies apart from a slice of n that is read. -/
def Sep (A : Option Addr) (n : Nat) (v : Value) : Prop := 0 < n → ∀ b o, A = some ⟨b, o, none⟩ → v.ownBlock ≠ some b
theorem Sep.of_own {w w' : World} {base e k m e' k' n c : Nat} {v : Value} {xs ys : List Value} {A : Option Addr} (hv : w.ownsRow base e k v m xs) (hi : w'.ownsRow w.heap.size e' k' (.slice A n c) n ys) : Sep A n v := by
  intro hn b o hA he
  have hlt := (hv.lt b he).2
  rcases hi.2 with ⟨hh, h0⟩ | ⟨g, cap, cur, hh, hb, _⟩
  · omega
  · injection hh with h1
    rw [hA] at h1
    injection h1 with h1
    injection h1 with h1
    omega
theorem Rd.sep {w w' : World} {n : Nat} {A : Option Addr} {ss : List ByteArray} {v : Value} (h : RdS w A n ss) (hg : w.grownBy w' v.ownBlock) (hs : Sep A n v) : RdS w' A n ss := by
  refine ⟨h.1, fun hp => ?_⟩
  obtain ⟨b, o, e, hc⟩ := h.2 hp
  have hn : 0 < n := by have := h.1; omega
  refine ⟨b, o, e, fun j u hu => ?_⟩
  have h1 := hc j u hu
  have hb : b < w.heap.size := World.block_lt_of_cell? w _ h1
  exact (World.cell?_of_block (hg.block b hb (fun hh => hs hn b o e hh.symm))).trans h1
theorem Sep.next {w : World} {n : Nat} {A : Option Addr} {ss : List ByteArray} {v v' : Value} (h : RdS w A n ss) (hs : Sep A n v) (hv : v'.ownBlock = v.ownBlock ∨ v'.ownBlock = some w.heap.size) : Sep A n v' := by
  intro hn b o e
  rcases hv with hv | hv
  · rw [hv]; exact hs hn b o e
  · obtain ⟨b', o', e', hc⟩ := h.2 (by have := h.1; omega)
    rw [e] at e'
    injection e' with e'
    injection e' with e1 e2
    have hl := h.1
    have hb : b' < w.heap.size := World.block_lt_of_cell? w _ (hc 0 _ (List.getElem?_eq_getElem (by omega)))
    rw [hv]
    intro hh
    injection hh with hh
    omega

/-- Append onto an own row, with where the new row lies. -/
theorem wpList_appAt {P : Program} (w : World) {ops : Array Oper} {rest : List Oper} {o : Oper} {a : Act} {Q : Exit → Act → World → Prop} (hgd : o.guard = none) (s x : Operand) (t : TypeId)
    (ho : o.op = .call { callee := .builtin .append, args := #[s, x], argTypes := #[t, t] })
    (w0 : World) (e : TypeId) (z : Value) (size bytes : Nat) (ht : P.underlying t = some (.slice e))
    (hinfo : (P.info? e).map (fun i => (i.zero, i.size, i.bytes)) = some (some z, size, bytes)) (hzs : z.cells.size = size) (hsz : 0 < size)
    (v : Value) (n : Nat) (xs : List Value) (hs : a.eval s = v) (hown : w.ownsRow w0.heap.size e size v n xs)
    (ad : Addr) (m c : Nat) (news : List Value) (hx : a.eval x = .slice (some ad) m c) (hl : news.length = m * size) (hnews : ∀ j u, news[j]? = some u → w.cell? (ad.add j) = some u) (h1 : ∀ u ∈ news, u.oneCell' = true)
    (hb : Ext w0 w) (hbytes : (n + m) * bytes ≤ 140737488355328) (hby0 : 0 < bytes)
    (h : ∀ A' c' w', w'.ownsRow w0.heap.size e size (.slice A' (n + m) c') (n + m) (xs ++ news) → Ext w0 w' → n + m ≤ c' → w.grownBy w' v.ownBlock → ((Value.slice A' (n + m) c').ownBlock = v.ownBlock ∨ (Value.slice A' (n + m) c').ownBlock = some w.heap.size) → wpList P ops Q rest (a.put o.dst (.slice A' (n + m) c')) w') : wpList P ops Q (o :: rest) a w := by
  have h63 : n + m ≤ maxLen := by
    have : (n + m) * 1 ≤ (n + m) * bytes := Nat.mul_le_mul_left _ hby0
    simp only [maxLen]; omega
  obtain ⟨i, hi, hz, hsize, hby⟩ := info_parts hinfo
  refine wpList_append_own_at w hgd s x t ho w0.heap.size e i z size bytes ht hi hz hsize hby hzs hsz v n xs hs hown ad m c news hx hl hnews h1 h63 hbytes hb.size ?_
  intro v' w' h2 h3 _ h5
  obtain ⟨A', c', rfl, hle⟩ := own_shape h2
  exact h A' c' w' h2 (hb.grown h3 (fun k hk => (hown.lt k hk).1)) hle h3 h5
end Go.Proofs.YtocniclkooiggaaDoor

namespace Go.Proofs.YtocniclkooiggaaDoor
open Go.RowKit


theorem small_hi {fs : List Fd} (h : 70 < fs.length) : false = smallS fs := by unfold smallS; rw [decide_eq_false (by omega)]; simp
theorem small_lo {fs : List Fd} {b : Bool} (h : fs.length ≤ 70) (hb : decide ((sumF fs : Int) ≤ 6000) = b) : b = smallS fs := by
  unfold smallS; rw [decide_eq_true h, ← hb, Bool.true_and]; apply decide_eq_decide.2; omega

set_option maxHeartbeats 1000000 in
theorem law_Fields (A : Option Addr) (n c : Nat) (fs : List Fd) (w : World) (hf : RdF w A n fs) (hn : n ≤ 1073741824) :
    Calls Tryd.prog 30 #[.slice A n c] w fun e w' => ∃ A' c', e = .returned (.slice A' n c') ∧ RdF w' A' n fs ∧ n ≤ c' ∧ Ext w w' ∧ w'.ownsRow w.heap.size 28 2 (.slice A' n c') n (fldCells fs) := by
  have hl := hf.lenF
  go_enter Tryd.func30, Tryd.ntmps30
  have Hl := Lib.hid hl; clear hl
  go_wp2_with fail
  go_loopw [3, 8] (fun v i wr => ∃ k A' c', k ≤ n ∧ i = .int .i64 (k : Nat) ∧ v = .slice A' k c' ∧ wr.ownsRow w.heap.size 28 2 (.slice A' k c') k (fldCells (fs.take k)) ∧ k ≤ c' ∧ Ext w wr) (fun _ i _ => n - (intOf i).toNat)
  case atStart => exact ⟨0, none, 0, Nat.zero_le _, rfl, rfl, World.ownsRow_nil _ _ _ _, Nat.le_refl _, Ext.refl _⟩
  case round =>
    obtain ⟨k, A', c', hk, rfl, rfl, hown, hmc, hbr⟩ := hrel
    by_cases hlt : k < n
    · have hlt' : k < fs.length := by have := Hl.out; omega
      obtain ⟨b, o, rfl, hc0, hc1⟩ := (hf.ext hbr).atF hlt'
      have Hst := Lib.hid (take_step fs k hlt')
      generalize hx : fs[k] = x at *
      obtain ⟨nm, vl⟩ := x
      clear hx
      go_wp2_with (first
          | (at_builtin; refine wpList_app _ rfl (.tmp 12) (.tmp 18) 30 rfl w 28 _ 2 32 Tryd.underlying30 infoFld rfl (by decide) _ _ _ rfl ((hown.alloc _).alloc _) _ 1 1 (fldCells [(nm, vl)]) rfl (Rd.two _ _ _ _ (by simp)) (fldCells_one _) ((hbr.alloc _).alloc _) (by omega) (by decide) ?_; intro A2 c2 w3 hown3 hb3 hle3))
      go_roundw
      case rel => exact ⟨k + 1, A2, c2, by omega, by go_num, rfl, by rw [Hst.out, fldCells_app]; exact hown3, hle3, hb3⟩
      case measure => simp [intOf]; omega
    · obtain rfl : k = n := by omega
      have he : fs.take k = fs := List.take_of_length_le (by have := Hl.out; omega)
      rw [he] at hown
      go_wp2
      go_ret
      exact ⟨_, _, rfl, Rd.of_own hown, hmc, hbr, hown⟩

end Go.Proofs.YtocniclkooiggaaDoor

namespace Go.Proofs.YtocniclkooiggaaDoor
open Go.RowKit

theorem str_Join (A : Option Addr) (n c : Nat) (ss : List ByteArray) (w : World) (h : RdS w A n ss) (hc : n ≤ c) (hT : totS ss + 2 * n ≤ 70368744177664) :
    Calls Tryd.prog 59 #[.slice A n c, .string ⟨#[44, 32]⟩] w fun e w' => e = .returned (.string (joinS ss)) ∧ Ext w w' := by
  have hl := h.lenS
  by_cases h0 : 0 < n
  · obtain ⟨b, o, rfl, hcell⟩ := h.2 (by simp; omega)
    have hbk : b < w.heap.size := World.block_lt_of_cell? w _ (hcell 0 (.string (ss[0]'(by omega))) (by simp [List.getElem?_eq_getElem (show 0 < ss.length by omega)]))
    have hj := joinL_len ss
    subst hl
    exact (Tryd.strings_Join b o c ss ⟨#[44, 32]⟩ w (fun j x hx => hcell j _ (by simp [hx])) hbk (by omega) hc (by simp only []; omega)).mono fun e w' hh => ⟨hh.1, hh.2⟩
  · obtain rfl : n = 0 := by omega
    obtain rfl : ss = [] := List.eq_nil_of_length_eq_zero hl
    exact (Tryd.strings_Join_none A c ⟨#[44, 32]⟩ w).mono fun e w' hh => ⟨hh.1, by rw [hh.2]; exact Ext.refl _⟩
end Go.Proofs.YtocniclkooiggaaDoor

namespace Go.Proofs.YtocniclkooiggaaDoor
open Go.RowKit

set_option maxHeartbeats 1000000 in
theorem field_Get (A : Option Addr) (n c : Nat) (fs : List Fd) (name : ByteArray) (w : World) (hf : RdF w A n fs)
    (hn : n ≤ 1073741824) (hs : name.size ≤ 9223372036854775807) (B : Nat) (hB : B ≤ 140737488355328) (hsz : Bsz B fs) (hT : sumF fs + 2 * n ≤ 70368744177664) :
    Calls Tryd.prog 46 #[.slice A n c, .string name] w fun e w' => e = .returned (.tuple #[.string (joinS (allS fs name)), .bool (decide (0 < (allS fs name).length))]) ∧ Ext w w' := by
  have hl := hf.lenF
  have hta := totS_all fs name
  rw [hl] at hta
  have hal : (allS fs name).length ≤ n := by have := allS_len fs name n; rwa [List.take_of_length_le (by omega)] at this
  have Hl := Lib.hid hl; clear hl
  go_enter Tryd.func46, Tryd.ntmps46
  go_wp2_with fail
  refine (field_All _ _ _ _ _ _ hf hn hs (fun f hff => by have := (hsz f hff).1; omega)).mono ?_
  rintro e w1 ⟨A', n', c', rfl, hr, hc, hb1⟩
  have hl2 := hr.lenS
  rw [← hl2] at hc hr
  obtain rfl := hl2
  generalize hss : allS fs name = ss at *
  have Hss := Lib.hid hss; clear hss
  go_wp2_with fail
  refine (str_Join _ _ _ _ _ hr hc (by omega)).mono ?_
  rintro e w2 ⟨rfl, hb2⟩
  go_wp2_with fail
  go_ret2
  obtain rfl := Hss.out
  exact ⟨by simp, hb1.trans hb2⟩

end Go.Proofs.YtocniclkooiggaaDoor

namespace Go.Proofs.YtocniclkooiggaaDoor
open Go.RowKit

def getO (fs : List Fd) (name : ByteArray) : Option ByteArray := if 0 < (allS fs name).length then some (joinS (allS fs name)) else none
def getV (o : Option ByteArray) : Value := .tuple #[.string (o.getD ⟨#[]⟩), .bool o.isSome]
theorem getO_some (fs : List Fd) (name : ByteArray) : (getO fs name).isSome = hasF fs name := by
  unfold getO hasF
  split
  · rename_i h; rw [decide_eq_true h]; rfl
  · rename_i h; rw [decide_eq_false h]; rfl
theorem getV_get (fs : List Fd) (name : ByteArray) : Value.tuple #[.string (joinS (allS fs name)), .bool (decide (0 < (allS fs name).length))] = getV (getO fs name) := by
  unfold getO
  cases h : allS fs name with
  | nil => rfl
  | cons a l =>
    rw [if_pos (by simp)]
    simp [getV]
theorem field_GetO (A : Option Addr) (n c : Nat) (fs : List Fd) (name : ByteArray) (w : World) (hf : RdF w A n fs)
    (hn : n ≤ 1073741824) (hs : name.size ≤ 9223372036854775807) (hsz : Bsz 1048576 fs) (hT : sumF fs + 2 * n ≤ 70368744177664) :
    Calls Tryd.prog 46 #[.slice A n c, .string name] w fun e w' => e = .returned (getV (getO fs name)) ∧ Ext w w' := by
  rw [← getV_get]
  exact field_Get A n c fs name w hf hn hs 1048576 (by decide) hsz hT
end Go.Proofs.YtocniclkooiggaaDoor

namespace Go.Proofs.YtocniclkooiggaaDoor
open Go.RowKit

theorem ret_p {a b : Int × Int} (h : a = b) : Ending.returned (pairV a) = .returned (pairV b) := by rw [h]
def gE : Option Int → Int × Int
  | some n => (n, 4)
  | none => (0, 5)
theorem pair_mk (a b : Int) : Value.tuple #[.int .i64 a, .int .i64 b] = pairV (a, b) := rfl

set_option maxHeartbeats 4000000 in
set_option maxRecDepth 100000 in
theorem life_Cacheable (st : Int) (w : World) :
    Calls Tryd.prog 48 #[.int .i64 st] w fun e w' => e = .returned (.bool (cacS st)) ∧ w' = w := by
  have HN := Lib.hid (life_negative st)
  have Hc := Lib.hid (show cacS st = ((st == 200 || (st == 203 || (st == 204 || (st == 206 || (st == 300 || (st == 301 || (st == 308 || false))))))) || negS st) from by unfold cacS cacL; rfl)
  generalize cacS st = C at *
  generalize negS st = N at *
  cases h0 : (st == 200)
  rotate_left
  · have HL := Lib.hid (show true = C by rw [Hc.out, h0]; rfl)
    go_enter Tryd.func48, Tryd.ntmps48
    go_wp2_with fail
    go_ret
    exact ⟨ret_b HL.out, rfl⟩
  cases h1 : (st == 203)
  rotate_left
  · have HL := Lib.hid (show true = C by rw [Hc.out, h0, h1]; rfl)
    go_enter Tryd.func48, Tryd.ntmps48
    go_wp2_with fail
    go_ret
    exact ⟨ret_b HL.out, rfl⟩
  cases h2 : (st == 204)
  rotate_left
  · have HL := Lib.hid (show true = C by rw [Hc.out, h0, h1, h2]; rfl)
    go_enter Tryd.func48, Tryd.ntmps48
    go_wp2_with fail
    go_ret
    exact ⟨ret_b HL.out, rfl⟩
  cases h3 : (st == 206)
  rotate_left
  · have HL := Lib.hid (show true = C by rw [Hc.out, h0, h1, h2, h3]; rfl)
    go_enter Tryd.func48, Tryd.ntmps48
    go_wp2_with fail
    go_ret
    exact ⟨ret_b HL.out, rfl⟩
  cases h4 : (st == 300)
  rotate_left
  · have HL := Lib.hid (show true = C by rw [Hc.out, h0, h1, h2, h3, h4]; rfl)
    go_enter Tryd.func48, Tryd.ntmps48
    go_wp2_with fail
    go_ret
    exact ⟨ret_b HL.out, rfl⟩
  cases h5 : (st == 301)
  rotate_left
  · have HL := Lib.hid (show true = C by rw [Hc.out, h0, h1, h2, h3, h4, h5]; rfl)
    go_enter Tryd.func48, Tryd.ntmps48
    go_wp2_with fail
    go_ret
    exact ⟨ret_b HL.out, rfl⟩
  cases h6 : (st == 308)
  rotate_left
  · have HL := Lib.hid (show true = C by rw [Hc.out, h0, h1, h2, h3, h4, h5, h6]; rfl)
    go_enter Tryd.func48, Tryd.ntmps48
    go_wp2_with fail
    go_ret
    exact ⟨ret_b HL.out, rfl⟩
  have HL := Lib.hid (show N = C by rw [Hc.out, h0, h1, h2, h3, h4, h5, h6]; rfl)
  go_enter Tryd.func48, Tryd.ntmps48
  go_wp2_with fail
  refine (HN.out _).mono ?_; rintro e w1 ⟨rfl, rfl⟩
  go_wp2_with fail
  go_ret
  exact ⟨ret_b HL.out, rfl⟩

set_option maxHeartbeats 4000000 in
set_option maxRecDepth 100000 in
theorem life_expires (A : Option Addr) (n c : Nat) (fs : List Fd) (w : World) (hf : RdF w A n fs) (hn : n ≤ 1073741824) (hsz : Bsz 1048576 fs) (hg : GlH w) :
    Calls Tryd.prog 34 #[.slice A n c] w fun e w' => e = .returned (.int .i64 (exS fs)) ∧ Ext w w' := by
  have D1 := Lib.hid (fun w' (h : Ext w w') => life_date A n c fs dateN w' (hf.ext h) hn (by decide) hsz (hg.ext h))
  have D2 := Lib.hid (fun w' (h : Ext w w') => life_date A n c fs expN w' (hf.ext h) hn (by decide) hsz (hg.ext h))
  have He := Lib.hid (show exS fs = exO (dateS fs dateN) (dateS fs expN) from rfl)
  have b1 := fun k (h : dateS fs dateN = some k) => dateS_bd h
  have b2 := fun k (h : dateS fs expN = some k) => dateS_bd h
  generalize exS fs = E at *
  generalize dateS fs dateN = o1 at *
  generalize dateS fs expN = o2 at *
  have B1 := Lib.hid b1; have B2 := Lib.hid b2; clear b1 b2
  go_enter Tryd.func34, Tryd.ntmps34
  go_wp2_with fail
  refine (D1.out _ (Ext.refl _)).mono ?_; rintro e w1 ⟨rfl, hb1⟩
  cases o1 with
  | none =>
    have HL := Lib.hid (show 0 = E from He.out.symm)
    rw [dtV_none]
    go_wp2_with fail
    refine (D2.out _ hb1).mono ?_; rintro e w2 ⟨rfl, hb2⟩
    unfold dtV
    go_wp2_with fail
    go_ret
    exact ⟨ret_i HL.out, hb1.trans hb2⟩
  | some a =>
    rw [dtV_some]
    go_wp2_with fail
    refine (D2.out _ hb1).mono ?_; rintro e w2 ⟨rfl, hb2⟩
    cases o2 with
    | none =>
      have HL := Lib.hid (show 0 = E from He.out.symm)
      rw [dtV_none]
      go_wp2_with fail
      go_ret
      exact ⟨ret_i HL.out, hb1.trans hb2⟩
    | some b =>
      have HL := Lib.hid (show 1000 * max 0 (b - a) = E from He.out.symm)
      obtain ⟨a0, a1⟩ := B1.out _ rfl
      obtain ⟨c0, c1⟩ := B2.out _ rfl
      have m0 : 0 ≤ max 0 (b - a) := by omega
      have m1 : max 0 (b - a) ≤ 253402300799 := by omega
      have m2 : 0 ≤ max 0 (b - a) * 1000 := by omega
      have m3 : max 0 (b - a) * 1000 ≤ 253402300799000 := by omega
      rw [dtV_some]
      go_wp2_with fail
      go_ret
      exact ⟨ret_i (by rw [← HL.out]; first | rfl | omega), hb1.trans hb2⟩

set_option maxHeartbeats 8000000 in
set_option maxRecDepth 100000 in
theorem life_guess (st : Int) (A : Option Addr) (n c : Nat) (fs : List Fd) (w : World) (hf : RdF w A n fs) (hn : n ≤ 1073741824) (hsz : Bsz 1048576 fs) (hg : GlH w) :
    Calls Tryd.prog 35 #[.int .i64 st, .slice A n c] w fun e w' => e = .returned (dtV (gsS st fs)) ∧ Ext w w' := by
  have D1 := Lib.hid (fun w' (h : Ext w w') => life_date A n c fs dateN w' (hf.ext h) hn (by decide) hsz (hg.ext h))
  have D2 := Lib.hid (fun w' (h : Ext w w') => life_date A n c fs lmN w' (hf.ext h) hn (by decide) hsz (hg.ext h))
  have HC := Lib.hid (life_Cacheable st)
  have HN := Lib.hid (life_negative st)
  have b1 := fun k (h : dateS fs dateN = some k) => dateS_bd h
  have b2 := fun k (h : dateS fs lmN = some k) => dateS_bd h
  have He := Lib.hid (show gsS st fs = match dateS fs dateN, dateS fs lmN with
    | some x, some y => if cacS st && decide (y < x) then some (min (if negS st then 10000 else 86400000) (1000 * (x - y) / 10)) else none
    | _, _ => none from rfl)
  generalize gsS st fs = G at *
  generalize dateS fs dateN = o1 at *
  generalize dateS fs lmN = o2 at *
  generalize cacS st = C at *
  generalize negS st = N at *
  have B1 := Lib.hid b1; have B2 := Lib.hid b2; clear b1 b2
  go_enter Tryd.func35, Tryd.ntmps35
  go_wp2_with fail
  refine (D1.out _ (Ext.refl _)).mono ?_; rintro e w1 ⟨rfl, hb1⟩
  cases o1 with
  | none =>
    have HL := Lib.hid (show dtV none = dtV G by rw [He.out])
    rw [dtV_none]
    go_wp2_with fail
    refine (D2.out _ hb1).mono ?_; rintro e w2 ⟨rfl, hb2⟩
    unfold dtV
    go_wp2_with fail
    refine (HC.out _).mono ?_; rintro e w3 ⟨rfl, rfl⟩
    cases C
    all_goals
      go_wp2_with fail
      go_ret2
      exact ⟨ret_v HL.out, hb1.trans hb2⟩
  | some a =>
    rw [dtV_some]
    go_wp2_with fail
    refine (D2.out _ hb1).mono ?_; rintro e w2 ⟨rfl, hb2⟩
    cases o2 with
    | none =>
      have HL := Lib.hid (show dtV none = dtV G by rw [He.out])
      rw [dtV_none]
      go_wp2_with fail
      refine (HC.out _).mono ?_; rintro e w3 ⟨rfl, rfl⟩
      cases C
      all_goals
        go_wp2_with fail
        go_ret2
        exact ⟨ret_v HL.out, hb1.trans hb2⟩
    | some b =>
      obtain ⟨a0, a1⟩ := B1.out _ rfl
      obtain ⟨c0, c1⟩ := B2.out _ rfl
      have hG := He.out
      simp only [] at hG
      rw [dtV_some]
      go_wp2_with fail
      refine (HC.out _).mono ?_; rintro e w3 ⟨rfl, rfl⟩
      cases C
      · have HL := Lib.hid (show dtV none = dtV G by rw [hG]; rfl)
        clear hG
        go_wp2_with fail
        go_ret2
        exact ⟨ret_v HL.out, hb1.trans hb2⟩
      by_cases hlt : b < a
      rotate_left
      · have HL := Lib.hid (show dtV none = dtV G by rw [hG, decide_eq_false hlt]; rfl)
        clear hG
        go_wp2_with fail
        go_ret2
        exact ⟨ret_v HL.out, hb1.trans hb2⟩
      · have HL := Lib.hid (show dtV (some (min (if N then 10000 else 86400000) (1000 * (a - b) / 10))) = dtV G by rw [hG, decide_eq_true hlt]; rfl)
        clear hG
        have hge : ¬ a ≤ b := by omega
        have q1 : ((a - b) * 1000).tdiv 10 = 1000 * (a - b) / 10 := by rw [Int.tdiv_eq_ediv_of_nonneg (by omega)]; omega
        have q0 : 0 ≤ 1000 * (a - b) / 10 := by omega
        have q2 : 1000 * (a - b) / 10 ≤ 25340230079900 := by omega
        have q3 : 0 ≤ (a - b) * 1000 := by omega
        have q4 : (a - b) * 1000 ≤ 253402300799000 := by omega
        have q5 : (a - b) * 1000 / 10 = 1000 * (a - b) / 10 := by omega
        go_wp2_with fail
        refine (HN.out _).mono ?_; rintro e w4 ⟨rfl, rfl⟩
        cases N
        all_goals
          go_wp2_with fail
          go_ret2
          exact ⟨ret_v (by rw [← HL.out]; first | rfl | (refine congrArg (fun x => Value.tuple #[.int .i64 x, .bool true]) ?_; simp only [Option.getD_some, Bool.false_eq_true, if_false, if_true]; omega)), hb1.trans hb2⟩

set_option maxHeartbeats 8000000 in
set_option maxRecDepth 100000 in
theorem life_Explicit (A : Option Addr) (n c : Nat) (fs : List Fd) (w : World) (hf : RdF w A n fs) (hn : n ≤ 1073741824) (hsz : Bsz 1048576 fs) (hg : GlH w) (hT : sumF fs + 2 * n ≤ 70368744177664) (hgl : Gl w) :
    Calls Tryd.prog 33 #[.slice A n c] w fun e w' => e = .returned (.bool (xplS fs)) ∧ Ext w w' := by
  have HP := Lib.hid (show Calls Tryd.prog 27 #[.slice A n c] w fun e w' => e = .returned (.agg (dArr (ccD fs))) ∧ Ext w w' from dir_Parse A n c fs w hf hn hsz hgl)
  have HG := Lib.hid (fun w' (h : Ext w w') => field_GetO A n c fs expN w' (hf.ext h) hn (by decide) hsz hT)
  have He := Lib.hid (show xplS fs = (decide (0 ≤ (ccD fs).n1) || decide (0 ≤ (ccD fs).n0) || (getO fs expN).isSome) from by rw [getO_some]; rfl)
  have hbd := ccD_bd fs
  generalize xplS fs = E at *
  generalize ccD fs = D at *
  generalize getO fs expN = o1 at *
  obtain ⟨⟨_, _⟩, ⟨_, _⟩, _, _, _, _⟩ := hbd
  go_enter Tryd.func33, Tryd.ntmps33
  go_wp2_with fail
  refine HP.out.mono ?_; rintro e w1 ⟨rfl, hb1⟩
  by_cases g1 : 0 ≤ D.n1
  · have HL := Lib.hid (show true = E by rw [He.out, decide_eq_true g1]; rfl)
    go_wp2_with (first | (refine wpList_storeB rfl 50 (.tmp 3) (.tmp 7) rfl rfl w1.heap.size _ rfl rfl 50 _ (Blk.new w1 _ _) infoDp rfl (dArr_one D) ?_; intro wd hBd hxd; have d1 : wd.cell? ⟨w1.heap.size, 1, none⟩ = some (.bool D.b1) := hBd.cell 1; have d4 : wd.cell? ⟨w1.heap.size, 4, none⟩ = some (.bool D.b4) := hBd.cell 4; have d6 : wd.cell? ⟨w1.heap.size, 6, none⟩ = some (.int .i64 D.n0) := hBd.cell 6; have d7 : wd.cell? ⟨w1.heap.size, 7, none⟩ = some (.int .i64 D.n1) := hBd.cell 7; have d8 : wd.cell? ⟨w1.heap.size, 8, none⟩ = some (.int .i64 D.n2) := hBd.cell 8; have d9 : wd.cell? ⟨w1.heap.size, 9, none⟩ = some (.int .i64 D.n3) := hBd.cell 9))
    have hE2 := (hb1.alloc (.cells (dArr zeroD) 50)).growB hxd hb1.size
    refine (HG.out _ hE2).mono ?_; rintro e w3 ⟨rfl, hb3⟩
    have d6 := hb3.cell d6
    have d7 := hb3.cell d7
    unfold getV
    go_wp2_with fail
    go_ret
    exact ⟨ret_b HL.out, hE2.trans hb3⟩
  have Hg1 := Lib.hid (decide_eq_false g1)
  have z1 := decide_eq_false g1
  by_cases g0 : 0 ≤ D.n0
  · have HL := Lib.hid (show true = E by rw [He.out, Hg1.out, decide_eq_true g0]; rfl)
    go_wp2_with (first | (refine wpList_storeB rfl 50 (.tmp 3) (.tmp 7) rfl rfl w1.heap.size _ rfl rfl 50 _ (Blk.new w1 _ _) infoDp rfl (dArr_one D) ?_; intro wd hBd hxd; have d1 : wd.cell? ⟨w1.heap.size, 1, none⟩ = some (.bool D.b1) := hBd.cell 1; have d4 : wd.cell? ⟨w1.heap.size, 4, none⟩ = some (.bool D.b4) := hBd.cell 4; have d6 : wd.cell? ⟨w1.heap.size, 6, none⟩ = some (.int .i64 D.n0) := hBd.cell 6; have d7 : wd.cell? ⟨w1.heap.size, 7, none⟩ = some (.int .i64 D.n1) := hBd.cell 7; have d8 : wd.cell? ⟨w1.heap.size, 8, none⟩ = some (.int .i64 D.n2) := hBd.cell 8; have d9 : wd.cell? ⟨w1.heap.size, 9, none⟩ = some (.int .i64 D.n3) := hBd.cell 9))
    have hE2 := (hb1.alloc (.cells (dArr zeroD) 50)).growB hxd hb1.size
    refine (HG.out _ hE2).mono ?_; rintro e w3 ⟨rfl, hb3⟩
    have d6 := hb3.cell d6
    have d7 := hb3.cell d7
    unfold getV
    go_wp2_with fail
    go_ret
    exact ⟨ret_b HL.out, hE2.trans hb3⟩
  · have HL := Lib.hid (show o1.isSome = E by rw [He.out, Hg1.out, decide_eq_false g0]; rfl)
    have z0 := decide_eq_false g0
    go_wp2_with (first | (refine wpList_storeB rfl 50 (.tmp 3) (.tmp 7) rfl rfl w1.heap.size _ rfl rfl 50 _ (Blk.new w1 _ _) infoDp rfl (dArr_one D) ?_; intro wd hBd hxd; have d1 : wd.cell? ⟨w1.heap.size, 1, none⟩ = some (.bool D.b1) := hBd.cell 1; have d4 : wd.cell? ⟨w1.heap.size, 4, none⟩ = some (.bool D.b4) := hBd.cell 4; have d6 : wd.cell? ⟨w1.heap.size, 6, none⟩ = some (.int .i64 D.n0) := hBd.cell 6; have d7 : wd.cell? ⟨w1.heap.size, 7, none⟩ = some (.int .i64 D.n1) := hBd.cell 7; have d8 : wd.cell? ⟨w1.heap.size, 8, none⟩ = some (.int .i64 D.n2) := hBd.cell 8; have d9 : wd.cell? ⟨w1.heap.size, 9, none⟩ = some (.int .i64 D.n3) := hBd.cell 9))
    have hE2 := (hb1.alloc (.cells (dArr zeroD) 50)).growB hxd hb1.size
    refine (HG.out _ hE2).mono ?_; rintro e w3 ⟨rfl, hb3⟩
    have d6 := hb3.cell d6
    have d7 := hb3.cell d7
    unfold getV
    go_wp2_with fail
    go_ret
    exact ⟨ret_b HL.out, hE2.trans hb3⟩

set_option maxHeartbeats 8000000 in
set_option maxRecDepth 100000 in
theorem life_Of (st : Int) (A : Option Addr) (n c : Nat) (fs : List Fd) (w : World) (hf : RdF w A n fs) (hn : n ≤ 1073741824) (hsz : Bsz 1048576 fs) (hg : GlH w) (hT : sumF fs + 2 * n ≤ 70368744177664) (hgl : Gl w) :
    Calls Tryd.prog 14 #[.int .i64 st, .slice A n c] w fun e w' => e = .returned (pairV (ofS st fs)) ∧ Ext w w' := by
  have HP := Lib.hid (show Calls Tryd.prog 27 #[.slice A n c] w fun e w' => e = .returned (.agg (dArr (ccD fs))) ∧ Ext w w' from dir_Parse A n c fs w hf hn hsz hgl)
  have HX := Lib.hid (fun w' (h : Ext w w') => life_Explicit A n c fs w' (hf.ext h) hn hsz (hg.ext h) hT (hgl.ext h))
  have HE := Lib.hid (fun w' (h : Ext w w') => life_expires A n c fs w' (hf.ext h) hn hsz (hg.ext h))
  have HU := Lib.hid (fun w' (h : Ext w w') => life_guess st A n c fs w' (hf.ext h) hn hsz (hg.ext h))
  have Ho := Lib.hid (show ofS st fs = if 0 ≤ (ccD fs).n1 then ((1000 * (ccD fs).n1, 1) : Int × Int) else if 0 ≤ (ccD fs).n0 then (1000 * (ccD fs).n0, 2) else if hasF fs expN then (exS fs, 3) else gE (gsS st fs) from rfl)
  have hx := show xplS fs = (decide (0 ≤ (ccD fs).n1) || decide (0 ≤ (ccD fs).n0) || hasF fs expN) from rfl
  have hbd := ccD_bd fs
  generalize ofS st fs = O at *
  generalize exS fs = EX at *
  generalize gsS st fs = GS at *
  generalize xplS fs = X at *
  generalize hasF fs expN = hh at *
  generalize ccD fs = D at *
  have Hx := Lib.hid hx; clear hx
  obtain ⟨⟨u1, u2⟩, ⟨u3, u4⟩, _, _, _, _⟩ := hbd
  have hE1 : ∀ w1 wd, Ext w w1 → ExtB w1.heap.size (w1.alloc (.cells (dArr zeroD) 50)) wd → Ext w wd := fun w1 wd h k => (h.alloc _).growB k h.size
  have HE1 := Lib.hid hE1; clear hE1
  go_enter Tryd.func14, Tryd.ntmps14
  go_wp2_with fail
  refine HP.out.mono ?_; rintro e w1 ⟨rfl, hb1⟩
  by_cases g1 : 0 ≤ D.n1
  · have HL := Lib.hid (show Value.tuple #[.int .i64 (D.n1 * 1000), .int .i64 (1)] = pairV O by rw [Ho.out, if_pos g1, Int.mul_comm D.n1]; rfl)
    have m2 : 0 ≤ D.n1 * 1000 := by omega
    have m3 : D.n1 * 1000 ≤ 2147483647000 := by omega
    go_wp2_with (first | (refine wpList_storeB rfl 50 (.tmp 6) (.tmp 10) rfl rfl w1.heap.size _ rfl rfl 50 _ (Blk.new w1 _ _) infoDp rfl (dArr_one D) ?_; intro wd hBd hxd; have d1 : wd.cell? ⟨w1.heap.size, 1, none⟩ = some (.bool D.b1) := hBd.cell 1; have d4 : wd.cell? ⟨w1.heap.size, 4, none⟩ = some (.bool D.b4) := hBd.cell 4; have d6 : wd.cell? ⟨w1.heap.size, 6, none⟩ = some (.int .i64 D.n0) := hBd.cell 6; have d7 : wd.cell? ⟨w1.heap.size, 7, none⟩ = some (.int .i64 D.n1) := hBd.cell 7; have d8 : wd.cell? ⟨w1.heap.size, 8, none⟩ = some (.int .i64 D.n2) := hBd.cell 8; have d9 : wd.cell? ⟨w1.heap.size, 9, none⟩ = some (.int .i64 D.n3) := hBd.cell 9))
    go_ret2
    exact ⟨ret_v HL.out, HE1.out _ _ hb1 hxd⟩
  by_cases g0 : 0 ≤ D.n0
  · have HL := Lib.hid (show Value.tuple #[.int .i64 (D.n0 * 1000), .int .i64 (2)] = pairV O by rw [Ho.out, if_neg g1, if_pos g0, Int.mul_comm D.n0]; rfl)
    have m2 : 0 ≤ D.n0 * 1000 := by omega
    have m3 : D.n0 * 1000 ≤ 2147483647000 := by omega
    go_wp2_with (first | (refine wpList_storeB rfl 50 (.tmp 6) (.tmp 10) rfl rfl w1.heap.size _ rfl rfl 50 _ (Blk.new w1 _ _) infoDp rfl (dArr_one D) ?_; intro wd hBd hxd; have d1 : wd.cell? ⟨w1.heap.size, 1, none⟩ = some (.bool D.b1) := hBd.cell 1; have d4 : wd.cell? ⟨w1.heap.size, 4, none⟩ = some (.bool D.b4) := hBd.cell 4; have d6 : wd.cell? ⟨w1.heap.size, 6, none⟩ = some (.int .i64 D.n0) := hBd.cell 6; have d7 : wd.cell? ⟨w1.heap.size, 7, none⟩ = some (.int .i64 D.n1) := hBd.cell 7; have d8 : wd.cell? ⟨w1.heap.size, 8, none⟩ = some (.int .i64 D.n2) := hBd.cell 8; have d9 : wd.cell? ⟨w1.heap.size, 9, none⟩ = some (.int .i64 D.n3) := hBd.cell 9))
    go_ret2
    exact ⟨ret_v HL.out, HE1.out _ _ hb1 hxd⟩
  have hX : X = hh := by rw [Hx.out, decide_eq_false g1, decide_eq_false g0]; rfl
  subst hX
  have HO := Lib.hid (show O = if X then ((EX, 3) : Int × Int) else gE GS by rw [Ho.out, if_neg g1, if_neg g0])
  clear Ho
  go_wp2_with (first | (refine wpList_storeB rfl 50 (.tmp 6) (.tmp 10) rfl rfl w1.heap.size _ rfl rfl 50 _ (Blk.new w1 _ _) infoDp rfl (dArr_one D) ?_; intro wd hBd hxd; have d1 : wd.cell? ⟨w1.heap.size, 1, none⟩ = some (.bool D.b1) := hBd.cell 1; have d4 : wd.cell? ⟨w1.heap.size, 4, none⟩ = some (.bool D.b4) := hBd.cell 4; have d6 : wd.cell? ⟨w1.heap.size, 6, none⟩ = some (.int .i64 D.n0) := hBd.cell 6; have d7 : wd.cell? ⟨w1.heap.size, 7, none⟩ = some (.int .i64 D.n1) := hBd.cell 7; have d8 : wd.cell? ⟨w1.heap.size, 8, none⟩ = some (.int .i64 D.n2) := hBd.cell 8; have d9 : wd.cell? ⟨w1.heap.size, 9, none⟩ = some (.int .i64 D.n3) := hBd.cell 9))
  have hE2 := HE1.out _ _ hb1 hxd
  refine (HX.out _ hE2).mono ?_; rintro e w3 ⟨rfl, hb3⟩
  have hE3 := hE2.trans hb3
  cases X
  · go_wp2_with fail
    refine (HU.out _ hE3).mono ?_; rintro e w4 ⟨rfl, hb4⟩
    cases GS with
    | none =>
      have HL := Lib.hid (show Value.tuple #[.int .i64 (0), .int .i64 (5)] = pairV O by rw [HO.out]; rfl)
      rw [dtV_none]
      go_wp2_with fail
      go_ret2
      exact ⟨ret_v HL.out, hE3.trans hb4⟩
    | some k =>
      have HL := Lib.hid (show Value.tuple #[.int .i64 (k), .int .i64 (4)] = pairV O by rw [HO.out]; rfl)
      rw [dtV_some]
      go_wp2_with fail
      go_ret2
      exact ⟨ret_v HL.out, hE3.trans hb4⟩
  · have HL := Lib.hid (show Value.tuple #[.int .i64 (EX), .int .i64 (3)] = pairV O by rw [HO.out]; rfl)
    go_wp2_with fail
    refine (HE.out _ hE3).mono ?_; rintro e w4 ⟨rfl, hb4⟩
    go_wp2_with fail
    go_ret2
    exact ⟨ret_v HL.out, hE3.trans hb4⟩

set_option maxHeartbeats 8000000 in
set_option maxRecDepth 100000 in
theorem life_Allowance (A : Option Addr) (n c : Nat) (fs : List Fd) (w : World) (hf : RdF w A n fs) (hn : n ≤ 1073741824) (hsz : Bsz 1048576 fs) (hgl : Gl w) :
    Calls Tryd.prog 37 #[.slice A n c] w fun e w' => e = .returned (pairV (alwS fs)) ∧ Ext w w' := by
  have HP := Lib.hid (show Calls Tryd.prog 27 #[.slice A n c] w fun e w' => e = .returned (.agg (dArr (ccD fs))) ∧ Ext w w' from dir_Parse A n c fs w hf hn hsz hgl)
  have Ho := Lib.hid (show alwS fs = if (ccD fs).b4 || (ccD fs).b1 || decide (0 ≤ (ccD fs).n1) then ((0, 0) : Int × Int) else (1000 * max 0 (ccD fs).n2, 1000 * max 0 (ccD fs).n3) from rfl)
  have hbd := ccD_bd fs
  generalize alwS fs = O at *
  generalize ccD fs = D at *
  obtain ⟨_, ⟨u3, u4⟩, ⟨u5, u6⟩, ⟨u7, u8⟩, _, _⟩ := hbd
  have hE1 : ∀ w1 wd, Ext w w1 → ExtB w1.heap.size (w1.alloc (.cells (dArr zeroD) 50)) wd → Ext w wd := fun w1 wd h k => (h.alloc _).growB k h.size
  have HE1 := Lib.hid hE1; clear hE1
  go_enter Tryd.func37, Tryd.ntmps37
  go_wp2_with fail
  refine HP.out.mono ?_; rintro e w1 ⟨rfl, hb1⟩
  cases hb4 : D.b4
  rotate_left
  · have HL := Lib.hid (show Value.tuple #[.int .i64 (0), .int .i64 (0)] = pairV O by rw [Ho.out, hb4]; rfl)
    go_wp2_with (first | (refine wpList_storeB rfl 50 (.tmp 4) (.tmp 6) rfl rfl w1.heap.size _ rfl rfl 50 _ (Blk.new w1 _ _) infoDp rfl (dArr_one D) ?_; intro wd hBd hxd; have d1 : wd.cell? ⟨w1.heap.size, 1, none⟩ = some (.bool D.b1) := hBd.cell 1; have d4 : wd.cell? ⟨w1.heap.size, 4, none⟩ = some (.bool D.b4) := hBd.cell 4; have d6 : wd.cell? ⟨w1.heap.size, 6, none⟩ = some (.int .i64 D.n0) := hBd.cell 6; have d7 : wd.cell? ⟨w1.heap.size, 7, none⟩ = some (.int .i64 D.n1) := hBd.cell 7; have d8 : wd.cell? ⟨w1.heap.size, 8, none⟩ = some (.int .i64 D.n2) := hBd.cell 8; have d9 : wd.cell? ⟨w1.heap.size, 9, none⟩ = some (.int .i64 D.n3) := hBd.cell 9))
    go_ret2
    exact ⟨ret_v HL.out, HE1.out _ _ hb1 hxd⟩
  cases hb1' : D.b1
  rotate_left
  · have HL := Lib.hid (show Value.tuple #[.int .i64 (0), .int .i64 (0)] = pairV O by rw [Ho.out, hb4, hb1']; rfl)
    go_wp2_with (first | (refine wpList_storeB rfl 50 (.tmp 4) (.tmp 6) rfl rfl w1.heap.size _ rfl rfl 50 _ (Blk.new w1 _ _) infoDp rfl (dArr_one D) ?_; intro wd hBd hxd; have d1 : wd.cell? ⟨w1.heap.size, 1, none⟩ = some (.bool D.b1) := hBd.cell 1; have d4 : wd.cell? ⟨w1.heap.size, 4, none⟩ = some (.bool D.b4) := hBd.cell 4; have d6 : wd.cell? ⟨w1.heap.size, 6, none⟩ = some (.int .i64 D.n0) := hBd.cell 6; have d7 : wd.cell? ⟨w1.heap.size, 7, none⟩ = some (.int .i64 D.n1) := hBd.cell 7; have d8 : wd.cell? ⟨w1.heap.size, 8, none⟩ = some (.int .i64 D.n2) := hBd.cell 8; have d9 : wd.cell? ⟨w1.heap.size, 9, none⟩ = some (.int .i64 D.n3) := hBd.cell 9))
    go_ret2
    exact ⟨ret_v HL.out, HE1.out _ _ hb1 hxd⟩
  by_cases g1 : 0 ≤ D.n1
  · have HL := Lib.hid (show Value.tuple #[.int .i64 (0), .int .i64 (0)] = pairV O by rw [Ho.out, hb4, hb1', decide_eq_true g1]; rfl)
    go_wp2_with (first | (refine wpList_storeB rfl 50 (.tmp 4) (.tmp 6) rfl rfl w1.heap.size _ rfl rfl 50 _ (Blk.new w1 _ _) infoDp rfl (dArr_one D) ?_; intro wd hBd hxd; have d1 : wd.cell? ⟨w1.heap.size, 1, none⟩ = some (.bool D.b1) := hBd.cell 1; have d4 : wd.cell? ⟨w1.heap.size, 4, none⟩ = some (.bool D.b4) := hBd.cell 4; have d6 : wd.cell? ⟨w1.heap.size, 6, none⟩ = some (.int .i64 D.n0) := hBd.cell 6; have d7 : wd.cell? ⟨w1.heap.size, 7, none⟩ = some (.int .i64 D.n1) := hBd.cell 7; have d8 : wd.cell? ⟨w1.heap.size, 8, none⟩ = some (.int .i64 D.n2) := hBd.cell 8; have d9 : wd.cell? ⟨w1.heap.size, 9, none⟩ = some (.int .i64 D.n3) := hBd.cell 9))
    go_ret2
    exact ⟨ret_v HL.out, HE1.out _ _ hb1 hxd⟩
  · have HL := Lib.hid (show Value.tuple #[.int .i64 (max 0 D.n2 * 1000), .int .i64 (max 0 D.n3 * 1000)] = pairV O by rw [Ho.out, hb4, hb1', decide_eq_false g1, Int.mul_comm (max 0 D.n2), Int.mul_comm (max 0 D.n3)]; rfl)
    have m2 : 0 ≤ max 0 D.n2 * 1000 := by omega
    have m3 : max 0 D.n2 * 1000 ≤ 2147483647000 := by omega
    have m4 : 0 ≤ max 0 D.n3 * 1000 := by omega
    have m5 : max 0 D.n3 * 1000 ≤ 2147483647000 := by omega
    have w2' : IntKind.i64.wrap (max 0 D.n2 * 1000) = max 0 D.n2 * 1000 := IntWalk.i64_in _ (by omega)
    have w3' : IntKind.i64.wrap (max 0 D.n3 * 1000) = max 0 D.n3 * 1000 := IntWalk.i64_in _ (by omega)
    go_wp2_with (first | (refine wpList_storeB rfl 50 (.tmp 4) (.tmp 6) rfl rfl w1.heap.size _ rfl rfl 50 _ (Blk.new w1 _ _) infoDp rfl (dArr_one D) ?_; intro wd hBd hxd; have d1 : wd.cell? ⟨w1.heap.size, 1, none⟩ = some (.bool D.b1) := hBd.cell 1; have d4 : wd.cell? ⟨w1.heap.size, 4, none⟩ = some (.bool D.b4) := hBd.cell 4; have d6 : wd.cell? ⟨w1.heap.size, 6, none⟩ = some (.int .i64 D.n0) := hBd.cell 6; have d7 : wd.cell? ⟨w1.heap.size, 7, none⟩ = some (.int .i64 D.n1) := hBd.cell 7; have d8 : wd.cell? ⟨w1.heap.size, 8, none⟩ = some (.int .i64 D.n2) := hBd.cell 8; have d9 : wd.cell? ⟨w1.heap.size, 9, none⟩ = some (.int .i64 D.n3) := hBd.cell 9))
    go_region
    all_goals (try go_wp2_with fail)
    all_goals
      go_ret2
      exact ⟨ret_v HL.out, (HE1.out _ _ hb1 hxd).drew⟩
end Go.Proofs.YtocniclkooiggaaDoor

namespace Go.Proofs.YtocniclkooiggaaDoor

def clT (n : Int) : Int := max 0 (min n 1099511627776)
def clP (n : Int) : Int := max 0 (min n 100000)
theorem clT_bd (n : Int) : 0 ≤ clT n ∧ clT n ≤ 1099511627776 := by unfold clT; omega
theorem clP_bd (n : Int) : 0 ≤ clP n ∧ clP n ≤ 100000 := by unfold clP; omega
theorem clT_id {n : Int} (h0 : 0 ≤ n) (h1 : n ≤ 1099511627776) : clT n = n := by unfold clT; omega
theorem clT_mono {a b : Int} (h : a ≤ b) : clT a ≤ clT b := by unfold clT; omega
/-- The least and the greatest true time after which a difference of readings is possible. -/
def elLo (d p : Int) : Int := if 0 < d then (d - 1) * 1000000 / (1000000 + p) + 1 else 0
def elHi (d p : Int) : Int := ((d + 1) * 1000000 + (1000000 - p) - 1) / (1000000 - p) - 1
theorem ediv_bd {a b : Int} (ha : 0 ≤ a) (hb : 1 ≤ b) : 0 ≤ a / b ∧ a / b ≤ a := by
  refine ⟨Int.ediv_nonneg ha (by omega), ?_⟩
  exact Int.ediv_le_self _ ha
theorem elLo_bd {d p : Int} (h0 : 0 ≤ d) (h1 : d ≤ 1099511627776) (hp0 : 0 ≤ p) (hp : p ≤ 100000) : 0 ≤ elLo d p ∧ elLo d p ≤ 1099511627777000000 := by
  unfold elLo
  split
  · have := ediv_bd (a := (d - 1) * 1000000) (b := 1000000 + p) (by omega) (by omega)
    omega
  · omega
theorem elHi_pos {d p : Int} (h0 : 0 ≤ d) (hp0 : 0 ≤ p) (hp : p ≤ 100000) : 0 ≤ elHi d p := by
  unfold elHi
  have h1 : 1 * (1000000 - p) ≤ (d + 1) * 1000000 + (1000000 - p) - 1 := by omega
  have := (Int.le_ediv_iff_mul_le (show 0 < 1000000 - p by omega)).2 h1
  omega
theorem elHi_le {d p : Int} (h0 : 0 ≤ d) (hp0 : 0 ≤ p) (hp : p ≤ 100000) : elHi d p ≤ 2 * d + 2 := by
  unfold elHi
  have h1 : (d + 1) * 1000000 + (1000000 - p) - 1 < (2 * d + 4) * (1000000 - p) := by
    have : (2 * d + 4) * 900000 ≤ (2 * d + 4) * (1000000 - p) := Int.mul_le_mul_of_nonneg_left (by omega) (by omega)
    omega
  have := Int.ediv_lt_of_lt_mul (show 0 < 1000000 - p by omega) h1
  omega
theorem elHi_mono {a b p : Int} (h : a ≤ b) (hp0 : 0 ≤ p) (hp : p ≤ 100000) : elHi a p ≤ elHi b p := by
  unfold elHi
  have := Int.ediv_le_ediv (show 0 < 1000000 - p by omega) (show (a + 1) * 1000000 + (1000000 - p) - 1 ≤ (b + 1) * 1000000 + (1000000 - p) - 1 by omega)
  omega
/-- A true time D that fits a difference d of readings is at most the greatest one. -/
theorem elHi_true {D d p : Int} (hp0 : 0 ≤ p) (hp : p ≤ 100000) (h : D * (1000000 - p) < (d + 1) * 1000000) : D ≤ elHi d p := by
  unfold elHi
  have h1 : (D + 1) * (1000000 - p) ≤ (d + 1) * 1000000 + (1000000 - p) - 1 := by
    rw [Int.add_mul]; omega
  have := (Int.le_ediv_iff_mul_le (show 0 < 1000000 - p by omega)).2 h1
  omega
/-- The times of a response, and the bounds of its age. -/
structure Tm where
  se : Int
  re : Int
  ag : Int
def tmArr (x : Tm) : Array Value := #[.int .i64 x.se, .int .i64 x.re, .int .i64 x.ag]
def exA (a : Int) : Int := if 0 ≤ a then (min a 2147483647 + 1) * 1000 else 0
theorem exA_bd (a : Int) : 0 ≤ exA a ∧ exA a ≤ 2147483648000 := by unfold exA; split <;> omega
def atO (x : Tm) (now ppm : Int) : Option (Int × Int) :=
  if clT x.re < clT x.se ∨ clT now < clT x.re then none
  else some (elLo (clT now - clT x.re) (clP ppm), elHi (clT now - clT x.se) (clP ppm) + exA x.ag)
theorem atO_bd {x : Tm} {now ppm : Int} {p : Int × Int} (h : atO x now ppm = some p) : 0 ≤ p.1 ∧ p.1 ≤ 1099511627777000000 ∧ 0 ≤ p.2 ∧ p.2 ≤ 4398046511104 + 2147483648000 := by
  unfold atO at h
  split at h
  · cases h
  · rename_i hc
    injection h with h
    have a := clT_bd x.re
    have b := clT_bd x.se
    have c := clT_bd now
    have e := clP_bd ppm
    have f := exA_bd x.ag
    have g := elLo_bd (d := clT now - clT x.re) (p := clP ppm) (by omega) (by omega) (by omega) (by omega)
    have i := elHi_pos (d := clT now - clT x.se) (p := clP ppm) (by omega) (by omega) (by omega)
    have j := elHi_le (d := clT now - clT x.se) (p := clP ppm) (by omega) (by omega) (by omega)
    rw [← h]
    simp only []
    omega
/-- Later, the upper bound is no less. -/
theorem atO_later {x : Tm} {a b ppm : Int} (h : a ≤ b) {p : Int × Int} (hp : atO x a ppm = some p) : ∃ q, atO x b ppm = some q ∧ p.2 ≤ q.2 := by
  unfold atO at *
  have hm := clT_mono h
  split at hp
  · cases hp
  · rename_i hc
    injection hp with hp
    rw [if_neg (by omega)]
    refine ⟨_, rfl, ?_⟩
    rw [← hp]
    have e := clP_bd ppm
    have := elHi_mono (a := clT a - clT x.se) (b := clT b - clT x.se) (p := clP ppm) (by omega) (by omega) (by omega)
    simp only []
    omega
/-- A clock's reading. -/
def rdS (off num den t : Int) : Int := off + t * num / den
/-- Between two readings of a clock within its bound no more true time has passed than the greatest one. -/
theorem rd_true {off num den t0 t1 P : Int} (hd : 0 < den) (hp0 : 0 ≤ P) (hp : P ≤ 100000) (h : (1000000 - P) * den ≤ num * 1000000) (ht : t0 ≤ t1) :
    t1 - t0 ≤ elHi (rdS off num den t1 - rdS off num den t0) P := by
  refine elHi_true hp0 hp ?_
  unfold rdS
  have a1 := Int.lt_ediv_add_one_mul_self (t1 * num) hd
  have a0 := Int.ediv_mul_le (t0 * num) (show den ≠ 0 by omega)
  generalize t1 * num / den = q1 at *
  generalize t0 * num / den = q0 at *
  have hx : (t1 - t0) * num = t1 * num - t0 * num := Int.sub_mul ..
  have h2 : (t1 - t0) * ((1000000 - P) * den) ≤ (t1 - t0) * (num * 1000000) := Int.mul_le_mul_of_nonneg_left h (by omega)
  have e1 : (t1 - t0) * ((1000000 - P) * den) = ((t1 - t0) * (1000000 - P)) * den := by rw [Int.mul_assoc]
  have e2 : (t1 - t0) * (num * 1000000) = ((t1 - t0) * num) * 1000000 := by rw [Int.mul_assoc]
  rw [e1, e2, hx] at h2
  have h3 : t1 * num - t0 * num < (q1 - q0 + 1) * den := by
    have : (q1 - q0 + 1) * den = (q1 + 1) * den - q0 * den := by rw [← Int.sub_mul]; congr 1; omega
    omega
  have h4 : ((t1 - t0) * (1000000 - P)) * den < ((off + q1 - (off + q0) + 1) * 1000000) * den := by
    have : ((off + q1 - (off + q0) + 1) * 1000000) * den = ((q1 - q0 + 1) * den) * 1000000 := by
      rw [show off + q1 - (off + q0) + 1 = q1 - q0 + 1 by omega, Int.mul_assoc, Int.mul_comm 1000000 den, Int.mul_assoc]
    omega
  exact Int.lt_of_mul_lt_mul_right h4 (by omega)
theorem elHi_ge {d p : Int} (h0 : 0 ≤ d) (hp0 : 0 ≤ p) (hp : p ≤ 100000) : d ≤ elHi d p := by
  refine elHi_true hp0 hp ?_
  have : d * (1000000 - p) ≤ d * 1000000 := Int.mul_le_mul_of_nonneg_left (by omega) h0
  omega
theorem elLo_le {d p : Int} (h0 : 0 ≤ d) (hp0 : 0 ≤ p) : elLo d p ≤ d := by
  unfold elLo
  split
  · have h1 : (d - 1) * 1000000 < d * (1000000 + p) := by
      have : d * 1000000 ≤ d * (1000000 + p) := Int.mul_le_mul_of_nonneg_left (by omega) h0
      omega
    have := Int.ediv_lt_of_lt_mul (show 0 < 1000000 + p by omega) h1
    omega
  · omega
theorem atO_order {x : Tm} {now ppm : Int} {p : Int × Int} (h : atO x now ppm = some p) : p.1 ≤ p.2 := by
  unfold atO at h
  split at h
  · cases h
  · rename_i hc
    injection h with h
    have e := clP_bd ppm
    have f := exA_bd x.ag
    have g := elLo_le (d := clT now - clT x.re) (p := clP ppm) (by omega) (by omega)
    have i := elHi_ge (d := clT now - clT x.se) (p := clP ppm) (by omega) (by omega) (by omega)
    rw [← h]
    simp only []
    omega
end Go.Proofs.YtocniclkooiggaaDoor

namespace Go.Proofs.YtocniclkooiggaaDoor
open Go.RowKit

/-! The splitting as a fold over the bytes: mode 0 outside quotes, 1 inside, 2 behind a backslash inside. -/
structure Sp where
  m : Nat
  cur : List UInt8
  out : List ByteArray
def trimL (l : List UInt8) : ByteArray := ⟨(Lib.trimS l blank).toArray⟩
theorem trimL_of (s : ByteArray) : trimL s.data.toList = trimF s := rfl
def spStep (sep : UInt8) (s : Sp) (c : UInt8) : Sp :=
  if s.m = 2 then ⟨1, s.cur ++ [c], s.out⟩
  else if s.m = 1 then (if c = 92 then ⟨2, s.cur ++ [c], s.out⟩ else if c = 34 then ⟨0, s.cur ++ [c], s.out⟩ else ⟨1, s.cur ++ [c], s.out⟩)
  else (if c = 34 then ⟨1, s.cur ++ [c], s.out⟩ else if c = sep then ⟨0, [], s.out ++ [trimL s.cur]⟩ else ⟨0, s.cur ++ [c], s.out⟩)
def spEnd (s : Sp) : Option (List ByteArray) := if s.m = 0 then some (s.out ++ [trimL s.cur]) else none
def qm (q : Bool) : Nat := if q then 1 else 0

section
variable (sep : UInt8) (cur : List UInt8) (out : List ByteArray) (c : UInt8)
theorem sp0 : spStep sep ⟨0, cur, out⟩ c = if c = 34 then ⟨1, cur ++ [c], out⟩ else if c = sep then ⟨0, [], out ++ [trimL cur]⟩ else ⟨0, cur ++ [c], out⟩ := rfl
theorem sp1 : spStep sep ⟨1, cur, out⟩ c = if c = 92 then ⟨2, cur ++ [c], out⟩ else if c = 34 then ⟨0, cur ++ [c], out⟩ else ⟨1, cur ++ [c], out⟩ := rfl
theorem sp2 : spStep sep ⟨2, cur, out⟩ c = ⟨1, cur ++ [c], out⟩ := rfl
end

theorem ext_snoc (s : ByteArray) {st i : Nat} (hst : st ≤ i) (hi : i < s.size) : (s.extract st (i + 1)).data.toList = (s.extract st i).data.toList ++ [s[i]] := by
  rw [← ByteArray.toList_eq, ← ByteArray.toList_eq, Lib.extract_toList, Lib.extract_toList]
  rw [show i + 1 - st = (i - st) + 1 by omega]
  have hl : i - st < (s.data.toList.drop st).length := by rw [List.length_drop]; have : s.data.toList.length = s.size := by simp
                                                          omega
  rw [List.take_succ_eq_append_getElem hl]
  congr 2
  rw [List.getElem_drop]
  simp only [Array.getElem_toList]
  have : st + (i - st) = i := by omega
  simp only [this]
  rfl
theorem drop_cons (s : ByteArray) {i : Nat} (hi : i < s.size) : s.data.toList.drop i = s[i] :: s.data.toList.drop (i + 1) := by
  rw [List.drop_eq_getElem_cons (by simpa using hi)]; rfl

theorem fin_fold (s : ByteArray) (sep : UInt8) : ∀ (n i st : Nat) (q : Bool) (out : List ByteArray), s.size - i ≤ n → st ≤ i → i ≤ s.size →
    fin s sep i st q out = spEnd ((s.data.toList.drop i).foldl (spStep sep) ⟨qm q, (s.extract st i).data.toList, out⟩) := by
  intro n
  induction n with
  | zero =>
    intro i st q out hn hst hi
    obtain rfl : i = s.size := by omega
    rw [fin, dif_neg (by omega), List.drop_of_length_le (by simp)]
    cases q
    · rfl
    · rfl
  | succ n ih =>
    intro i st q out hn hst hi
    by_cases hlt : i < s.size
    · rw [drop_cons s hlt, List.foldl_cons]
      have hx := ext_snoc s hst hlt
      rw [fin, dif_pos hlt]
      cases q
      · rw [if_neg (by simp)]
        by_cases h34 : s[i] = 34
        · rw [if_pos h34, ih _ _ _ _ (by omega) (by omega) (by omega), hx, show qm false = 0 from rfl, sp0, if_pos h34]; rfl
        · rw [if_neg h34]
          by_cases hsp : s[i] = sep
          · rw [if_pos ⟨rfl, hsp⟩, ih _ _ _ _ (by omega) (by omega) (by omega)]
            have he : (s.extract (i + 1) (i + 1)).data.toList = [] := by
              rw [← ByteArray.toList_eq, Lib.extract_toList]; simp
            rw [he, ← trimL_of, show qm false = 0 from rfl, sp0, if_neg h34, if_pos hsp]
          · rw [if_neg (by simp [hsp]), ih _ _ _ _ (by omega) (by omega) (by omega), hx, show qm false = 0 from rfl, sp0, if_neg h34, if_neg hsp]
      · by_cases h92 : s[i] = 92
        · rw [if_pos ⟨rfl, h92⟩]
          have h1 : spStep sep ⟨qm true, (s.extract st i).data.toList, out⟩ s[i] = ⟨2, (s.extract st (i + 1)).data.toList, out⟩ := by
            rw [hx, show qm true = 1 from rfl, sp1, if_pos h92]
          rw [h1]
          by_cases h2 : i + 1 < s.size
          · rw [drop_cons s h2, List.foldl_cons, ih _ _ _ _ (by omega) (by omega) (by omega), ext_snoc s (by omega) h2, sp2]; rfl
          · rw [fin, dif_neg (by omega), List.drop_of_length_le (by simp; omega)]
            rfl
        · rw [if_neg (by simp [h92])]
          by_cases h34 : s[i] = 34
          · rw [if_pos h34, ih _ _ _ _ (by omega) (by omega) (by omega), hx, show qm true = 1 from rfl, sp1, if_neg h92, if_pos h34]; rfl
          · rw [if_neg h34, if_neg (by simp), ih _ _ _ _ (by omega) (by omega) (by omega), hx, show qm true = 1 from rfl, sp1, if_neg h92, if_neg h34]
    · obtain rfl : i = s.size := by omega
      rw [fin, dif_neg (by omega), List.drop_of_length_le (by simp)]
      cases q
      · rfl
      · rfl
def spRun (sep : UInt8) (l : List UInt8) : Sp := l.foldl (spStep sep) ⟨0, [], []⟩
theorem parts_fold (s : ByteArray) (sep : UInt8) : partsS s sep = if ctlS s = true then none else spEnd (spRun sep s.data.toList) := by
  unfold partsS
  rw [fin_fold s sep s.size 0 0 false [] (by omega) (Nat.le_refl _) (by omega)]
  have : (s.extract 0 0).data.toList = [] := by rw [← ByteArray.toList_eq, Lib.extract_toList]; simp
  rw [this]
  rfl

theorem sp_out (sep : UInt8) (out : List ByteArray) : ∀ (l : List UInt8) (s : Sp), l.foldl (spStep sep) ⟨s.m, s.cur, out ++ s.out⟩ = ⟨(l.foldl (spStep sep) s).m, (l.foldl (spStep sep) s).cur, out ++ (l.foldl (spStep sep) s).out⟩
  | [], s => rfl
  | c :: l, s => by
    rw [List.foldl_cons, List.foldl_cons, ← sp_out sep out l (spStep sep s c)]
    congr 1
    simp only [spStep]
    split
    · rfl
    · split
      · split
        · rfl
        · split <;> rfl
      · split
        · rfl
        · split
          · simp
          · rfl
theorem sp_join {a b : List UInt8} {sep : UInt8} (hs : sep ≠ 34) {la : List ByteArray} (h : spEnd (spRun sep a) = some la) : spEnd (spRun sep (a ++ sep :: b)) = (spEnd (spRun sep b)).map (la ++ ·) := by
  unfold spRun at *
  rw [List.foldl_append, List.foldl_cons]
  generalize a.foldl (spStep sep) ⟨0, [], []⟩ = s at *
  obtain ⟨m, cur, out⟩ := s
  unfold spEnd at h
  split at h
  · rename_i h0
    have h0 : m = 0 := h0
    subst h0
    injection h with h
    have h1 : spStep sep ⟨0, cur, out⟩ sep = ⟨0, [], la⟩ := by
      rw [sp0, if_neg hs, if_pos rfl]; exact congrArg (Sp.mk 0 []) h
    rw [h1]
    have h2 := sp_out sep la b ⟨0, [], []⟩
    simp only [List.append_nil] at h2
    rw [h2]
    unfold spEnd
    split
    · simp
    · rfl
  · cases h
/-! Directives. -/
theorem D.eq_of {a b : D} (h0 : a.b0 = b.b0) (h1 : a.b1 = b.b1) (h2 : a.b2 = b.b2) (h3 : a.b3 = b.b3) (h4 : a.b4 = b.b4) (h5 : a.b5 = b.b5) (g0 : a.n0 = b.n0) (g1 : a.n1 = b.n1) (g2 : a.n2 = b.n2) (g3 : a.n3 = b.n3) (g4 : a.n4 = b.n4) (g5 : a.n5 = b.n5) : a = b := by
  cases a; cases b; simp_all
def stepF (d : D) (k : Nat) (t u v : Int) : D :=
  ⟨d.b0 || (k == 0), d.b1 || (k == 1), d.b2 || (k == 2), d.b3 || (k == 3), d.b4 || (k == 4 || k == 5), d.b5 || (k == 6),
   if k = 7 then lst d.n0 t else d.n0, if k = 8 then lst d.n1 t else d.n1, if k = 9 then lst d.n2 t else d.n2, if k = 10 then lst d.n3 t else d.n3, if k = 11 then lst d.n4 u else d.n4, if k = 12 then max d.n5 v else d.n5⟩
theorem stepK_eq (d : D) (k : Nat) (t u v : Int) : stepK d k t u v = stepF d k t u v := by
  unfold stepK
  split <;> simp [stepF]
  rename_i h0 h1 h2 h3 h4 h5 h6 h7 h8 h9 h10 h11 h12
  cases d
  simp_all
theorem lst_swap {a t u : Int} (ht : 0 ≤ t) (hu : 0 ≤ u) : lst (lst a t) u = lst (lst a u) t := by
  unfold lst
  by_cases ha : a < 0
  · rw [if_pos ha, if_pos ha, if_neg (by omega), if_neg (by omega), if_neg (by omega), if_neg (by omega)]; omega
  · rw [if_neg ha, if_neg ha, if_neg (by omega), if_neg (by omega), if_neg (by omega), if_neg (by omega), if_neg (by omega), if_neg (by omega)]; omega
theorem stepD_swap (d : D) (x y : ByteArray) : stepD (stepD d x) y = stepD (stepD d y) x := by
  unfold stepD
  simp only [stepK_eq]
  have a1 := timeV_range (argE x) (thE x) (bad := 0) (miss := 0) (by decide) (by decide)
  have a2 := timeV_range (argE x) (thE x) (bad := 0) (miss := 2147483647) (by decide) (by decide)
  have a3 := timeV_range (argE y) (thE y) (bad := 0) (miss := 0) (by decide) (by decide)
  have a4 := timeV_range (argE y) (thE y) (bad := 0) (miss := 2147483647) (by decide) (by decide)
  generalize kindE (lowS (eqName x)) = k at *
  generalize kindE (lowS (eqName y)) = l at *
  generalize timeV (argE x) (thE x) 0 0 = t1 at *
  generalize timeV (argE x) (thE x) 0 2147483647 = t2 at *
  generalize timeV (argE x) (thE x) 2147483647 2147483647 = t3 at *
  generalize timeV (argE y) (thE y) 0 0 = u1 at *
  generalize timeV (argE y) (thE y) 0 2147483647 = u2 at *
  generalize timeV (argE y) (thE y) 2147483647 2147483647 = u3 at *
  have hb : ∀ a p q : Bool, (a || p || q) = (a || q || p) := by decide
  apply D.eq_of
  · exact hb _ _ _
  · exact hb _ _ _
  · exact hb _ _ _
  · exact hb _ _ _
  · exact hb _ _ _
  · exact hb _ _ _
  all_goals simp only [stepF]
  · by_cases h1 : k = 7 <;> by_cases h2 : l = 7 <;> simp [h1, h2, lst_swap a1 a3]
  · by_cases h1 : k = 8 <;> by_cases h2 : l = 8 <;> simp [h1, h2, lst_swap a1 a3]
  · by_cases h1 : k = 9 <;> by_cases h2 : l = 9 <;> simp [h1, h2, lst_swap a1 a3]
  · by_cases h1 : k = 10 <;> by_cases h2 : l = 10 <;> simp [h1, h2, lst_swap a1 a3]
  · by_cases h1 : k = 11 <;> by_cases h2 : l = 11 <;> simp [h1, h2, lst_swap a2 a4]
  · by_cases h1 : k = 12 <;> by_cases h2 : l = 12 <;> simp [h1, h2] <;> omega
theorem fold_perm {xs ys : List ByteArray} (h : xs.Perm ys) (d : D) : xs.foldl stepD d = ys.foldl stepD d :=
  h.foldl_eq' (fun x _ y _ z => stepD_swap z x y) d
theorem stepV_set (d : D) (v : ByteArray) : stepV { d with b0 := true } v = { stepV d v with b0 := true } := by
  unfold stepV
  split
  · generalize itemsS v = I
    induction I generalizing d with
    | nil => rfl
    | cons x r ih =>
      rw [List.foldl_cons, List.foldl_cons, ← ih]
      congr 1
      unfold stepD
      simp only [stepK_eq, stepF, Bool.true_or]
  · rfl
theorem dirs_set (vs : List ByteArray) (d : D) : vs.foldl stepV { d with b0 := true } = { vs.foldl stepV d with b0 := true } := by
  induction vs generalizing d with
  | nil => rfl
  | cons v r ih => rw [List.foldl_cons, List.foldl_cons, stepV_set, ih]
/-- Are all values lists? -/
def okL (vs : List ByteArray) : Bool := vs.all fun v => (partsS v 44).isSome
theorem dirs_ok {vs : List ByteArray} (h : okL vs = true) (d : D) : vs.foldl stepV d = (vs.flatMap itemsS).foldl stepD d := by
  induction vs generalizing d with
  | nil => rfl
  | cons v r ih =>
    unfold okL at h
    rw [List.all_cons, Bool.and_eq_true] at h
    rw [List.foldl_cons, List.flatMap_cons, List.foldl_append, ih h.2]
    congr 1
    unfold stepV
    rw [h.1, if_pos rfl]
theorem dirs_rev {vs : List ByteArray} (h : okL vs = true) : dirS vs.reverse = dirS vs := by
  unfold dirS
  rw [dirs_ok h, dirs_ok (by unfold okL at *; rw [List.all_reverse]; exact h)]
  exact fold_perm ((List.reverse_perm vs).flatMap_right _) _

/-- Values joined by commas. -/
def joinC : List ByteArray → ByteArray
  | [] => ⟨#[]⟩
  | v :: r => r.foldl (fun a x => a ++ ⟨#[44]⟩ ++ x) v
theorem ctl_app (a b : ByteArray) : ctlS (a ++ b) = (ctlS a || ctlS b) := by unfold ctlS; rw [data_append, List.any_append]
theorem parts_two {a b : ByteArray} {la lb : List ByteArray} (ha : partsS a 44 = some la) (hb : partsS b 44 = some lb) : partsS (a ++ ⟨#[44]⟩ ++ b) 44 = some (la ++ lb) := by
  rw [parts_fold] at *
  split at ha
  · cases ha
  · split at hb
    · cases hb
    · rename_i h1 h2
      have hc : ctlS (a ++ ⟨#[44]⟩ ++ b) = false := by
        rw [ctl_app, ctl_app]
        rw [Bool.not_eq_true] at h1 h2
        rw [h1, h2]; rfl
      rw [hc, if_neg (by simp), data_append, data_append]
      have := sp_join (b := b.data.toList) (by decide : (44 : UInt8) ≠ 34) ha
      rw [hb] at this
      rw [List.append_assoc]
      exact this
theorem items_two {a b : ByteArray} (ha : (partsS a 44).isSome = true) (hb : (partsS b 44).isSome = true) : (partsS (a ++ ⟨#[44]⟩ ++ b) 44).isSome = true ∧ itemsS (a ++ ⟨#[44]⟩ ++ b) = itemsS a ++ itemsS b := by
  obtain ⟨la, ha⟩ := Option.isSome_iff_exists.1 ha
  obtain ⟨lb, hb⟩ := Option.isSome_iff_exists.1 hb
  have := parts_two ha hb
  unfold itemsS
  rw [this, ha, hb]
  exact ⟨rfl, by simp⟩
theorem join_items (r : List ByteArray) : ∀ v : ByteArray, (partsS v 44).isSome = true → okL r = true →
    (partsS (r.foldl (fun a x => a ++ ⟨#[44]⟩ ++ x) v) 44).isSome = true ∧ itemsS (r.foldl (fun a x => a ++ ⟨#[44]⟩ ++ x) v) = itemsS v ++ r.flatMap itemsS := by
  induction r with
  | nil => intro v hv _; exact ⟨hv, by simp⟩
  | cons x r ih =>
    intro v hv h
    unfold okL at h
    rw [List.all_cons, Bool.and_eq_true] at h
    obtain ⟨h1, h2⟩ := items_two hv h.1
    rw [List.foldl_cons, List.flatMap_cons]
    obtain ⟨h3, h4⟩ := ih _ h1 h.2
    exact ⟨h3, by rw [h4, h2, List.append_assoc]⟩
theorem dirs_join {vs : List ByteArray} (h : okL vs = true) : dirS [joinC vs] = dirS vs := by
  unfold dirS
  rw [dirs_ok h]
  show stepV noneD (joinC vs) = _
  cases vs with
  | nil => kernel_rfl
  | cons v r =>
    have h' := h
    unfold okL at h'
    rw [List.all_cons, Bool.and_eq_true] at h'
    obtain ⟨h1, h2⟩ := join_items r v h'.1 h'.2
    unfold stepV joinC
    rw [if_pos h1, h2, List.flatMap_cons]
end Go.Proofs.YtocniclkooiggaaDoor

namespace Go.Proofs.YtocniclkooiggaaDoor

/-- A time of a directive within its limits. -/
def nmT (n : Int) : Int := max (-1) (min n 2147483647)
def nmD (d : D) : D := { d with n0 := nmT d.n0, n1 := nmT d.n1, n2 := nmT d.n2, n3 := nmT d.n3, n4 := nmT d.n4, n5 := nmT d.n5 }
def mgD (x y : D) : D :=
  ⟨x.b0 || y.b0, x.b1 || y.b1, x.b2 || y.b2, x.b3 && y.b3, x.b4 || y.b4, x.b5 || y.b5, lst (nmT x.n0) (nmT y.n0), lst (nmT x.n1) (nmT y.n1), min (nmT x.n2) (nmT y.n2), min (nmT x.n3) (nmT y.n3), min (nmT x.n4) (nmT y.n4), max (nmT x.n5) (nmT y.n5)⟩
theorem mg_comm (x y : D) : mgD x y = mgD y x := by
  refine D.eq_of ?_ ?_ ?_ ?_ ?_ ?_ ?_ ?_ ?_ ?_ ?_ ?_ <;> simp only [mgD]
  · exact Bool.or_comm ..
  · exact Bool.or_comm ..
  · exact Bool.or_comm ..
  · exact Bool.and_comm ..
  · exact Bool.or_comm ..
  · exact Bool.or_comm ..
  · unfold lst nmT; (repeat' split) <;> omega
  · unfold lst nmT; (repeat' split) <;> omega
  · omega
  · omega
  · omega
  · omega
theorem lst_nm (a b : Int) : nmT (lst (nmT a) (nmT b)) = lst (nmT a) (nmT b) := by unfold lst nmT; (repeat' split) <;> omega
theorem lst_assoc (a b c : Int) : lst (lst (nmT a) (nmT b)) (nmT c) = lst (nmT a) (lst (nmT b) (nmT c)) := by unfold lst nmT; (repeat' split) <;> omega
theorem min_nm (a b : Int) : nmT (min (nmT a) (nmT b)) = min (nmT a) (nmT b) := by unfold nmT; omega
theorem max_nm (a b : Int) : nmT (max (nmT a) (nmT b)) = max (nmT a) (nmT b) := by unfold nmT; omega
theorem mg_assoc (x y z : D) : mgD (mgD x y) z = mgD x (mgD y z) := by
  refine D.eq_of ?_ ?_ ?_ ?_ ?_ ?_ ?_ ?_ ?_ ?_ ?_ ?_ <;> simp only [mgD]
  · exact Bool.or_assoc ..
  · exact Bool.or_assoc ..
  · exact Bool.or_assoc ..
  · exact Bool.and_assoc ..
  · exact Bool.or_assoc ..
  · exact Bool.or_assoc ..
  · rw [lst_nm, lst_nm, lst_assoc]
  · rw [lst_nm, lst_nm, lst_assoc]
  · rw [min_nm, min_nm]; omega
  · rw [min_nm, min_nm]; omega
  · rw [min_nm, min_nm]; omega
  · rw [max_nm, max_nm]; omega
theorem lst_self (a : Int) : lst a a = a := by unfold lst; (repeat' split) <;> omega
theorem lst_abs (a b : Int) : lst (lst (nmT a) (nmT b)) (nmT a) = lst (nmT a) (nmT b) := by unfold lst nmT; (repeat' split) <;> omega
theorem mg_idem (x y : D) : mgD (mgD x y) (mgD x y) = mgD x y := by
  refine D.eq_of ?_ ?_ ?_ ?_ ?_ ?_ ?_ ?_ ?_ ?_ ?_ ?_ <;> simp only [mgD]
  · exact Bool.or_self _
  · exact Bool.or_self _
  · exact Bool.or_self _
  · exact Bool.and_self _
  · exact Bool.or_self _
  · exact Bool.or_self _
  · rw [lst_nm, lst_self]
  · rw [lst_nm, lst_self]
  · rw [min_nm]; omega
  · rw [min_nm]; omega
  · rw [min_nm]; omega
  · rw [max_nm]; omega
theorem mg_absorb (x y : D) : mgD (mgD x y) x = mgD x y := by
  refine D.eq_of ?_ ?_ ?_ ?_ ?_ ?_ ?_ ?_ ?_ ?_ ?_ ?_ <;> simp only [mgD]
  · cases x.b0 <;> cases y.b0 <;> rfl
  · cases x.b1 <;> cases y.b1 <;> rfl
  · cases x.b2 <;> cases y.b2 <;> rfl
  · cases x.b3 <;> cases y.b3 <;> rfl
  · cases x.b4 <;> cases y.b4 <;> rfl
  · cases x.b5 <;> cases y.b5 <;> rfl
  · rw [lst_nm, lst_abs]
  · rw [lst_nm, lst_abs]
  · rw [min_nm]; omega
  · rw [min_nm]; omega
  · rw [min_nm]; omega
  · rw [max_nm]; omega
end Go.Proofs.YtocniclkooiggaaDoor

namespace Go.Proofs.YtocniclkooiggaaDoor

/-- A stored response's answer to a request, out of the numbers that it goes by. -/
def vdS (us : Bool) (hi life wh ma mf ms : Int) (mr sa hv : Bool) : Int :=
  if us = true ∧ hi < life ∧ (ma < 0 ∨ hi < 1000 * ma) ∧ (mf < 0 ∨ hi + 1000 * mf < life) then 1
  else if us = true ∧ hi < life + wh ∧ ma < 0 ∧ mf < 0 then 2
  else if us = true ∧ 0 ≤ ms ∧ mf < 0 ∧ mr = false ∧ sa = false ∧ hi < life + 1000 * ms ∧ (ma < 0 ∨ hi < 1000 * ma + 1000 * ms) then 3
  else if hv then 4 else 5
theorem vdS_range (us : Bool) (hi life wh ma mf ms : Int) (mr sa hv : Bool) : 1 ≤ vdS us hi life wh ma mf ms mr sa hv ∧ vdS us hi life wh ma mf ms mr sa hv ≤ 5 := by
  unfold vdS
  repeat' split
  all_goals omega
theorem vdS_unusable (hi life wh ma mf ms : Int) (mr sa hv : Bool) : vdS false hi life wh ma mf ms mr sa hv = if hv then 4 else 5 := by
  unfold vdS; simp
theorem vdS_last (us : Bool) (hi life wh ma mf ms : Int) (mr sa hv : Bool) : vdS us hi life wh ma mf ms mr sa hv ≤ (if hv then 4 else 5) := by
  unfold vdS
  cases hv <;> (repeat' split) <;> simp
/-- A lesser max-age, or one where there was none, never leads to an earlier verdict. -/
theorem vdS_age {us : Bool} {hi life wh ma ma' mf ms : Int} {mr sa hv : Bool} (h0 : 0 ≤ ma') (h : ma < 0 ∨ ma' ≤ ma) : vdS us hi life wh ma mf ms mr sa hv ≤ vdS us hi life wh ma' mf ms mr sa hv := by
  unfold vdS
  cases us <;> cases mr <;> cases sa <;> cases hv <;> simp only [Bool.false_eq_true, false_and, true_and, if_false, if_true, and_false, Bool.true_eq_false] <;> (repeat' split) <;> omega
/-- A min-fresh where there was none never leads to an earlier verdict. -/
theorem vdS_fresh {us : Bool} {hi life wh ma mf mf' ms : Int} {mr sa hv : Bool} (h0 : 0 ≤ mf') (h : mf < 0 ∨ mf' = mf) : vdS us hi life wh ma mf ms mr sa hv ≤ vdS us hi life wh ma mf' ms mr sa hv := by
  unfold vdS
  cases us <;> cases mr <;> cases sa <;> cases hv <;> simp only [Bool.false_eq_true, false_and, true_and, if_false, if_true, and_false, Bool.true_eq_false] <;> (repeat' split) <;> omega
/-- At a greater age the verdict is the same or a later one. -/
theorem vdS_later {us : Bool} {hi hi' life wh ma mf ms : Int} {mr sa hv : Bool} (h : hi ≤ hi') : vdS us hi life wh ma mf ms mr sa hv ≤ vdS us hi' life wh ma mf ms mr sa hv := by
  unfold vdS
  cases us <;> cases mr <;> cases sa <;> cases hv <;> simp only [Bool.false_eq_true, false_and, true_and, if_false, if_true, and_false, Bool.true_eq_false] <;> (repeat' split) <;> omega

/-- A stored response. -/
structure Sd where
  st : Int
  fs : List Fd
  tm : Tm
  hv : Bool
def lifeS (s : Sd) : Int := (ofS s.st s.fs).1
def usS (s : Sd) (q : D) (now ppm : Int) : Bool := (atO s.tm now ppm).isSome && !(ccD s.fs).b1 && !q.b1
def hiS (s : Sd) (now ppm : Int) : Int := match atO s.tm now ppm with | some p => p.2 | none => 0
def jdS (s : Sd) (q : D) (now ppm : Int) : Int :=
  vdS (usS s q now ppm) (hiS s now ppm) (lifeS s) (alwS s.fs).1 (nmT q.n0) (nmT q.n5) (nmT q.n4) (ccD s.fs).b4 (decide (0 ≤ (ccD s.fs).n1)) s.hv
def oeS (s : Sd) (now ppm : Int) : Bool := (atO s.tm now ppm).isSome && !(ccD s.fs).b1 && decide (hiS s now ppm < lifeS s + (alwS s.fs).2)
def lmS (s : Sd) : Int := if (ccD s.fs).b1 then 0 else lifeS s + max (alwS s.fs).1 (alwS s.fs).2

/-! PolicyStricter. -/
theorem strict_cache (s : Sd) (q : D) (now ppm : Int) : jdS s q now ppm ≤ jdS s { q with b1 := true } now ppm ∧ 4 ≤ jdS s { q with b1 := true } now ppm := by
  unfold jdS
  rw [show usS s { q with b1 := true } now ppm = false by unfold usS; simp]
  rw [vdS_unusable]
  refine ⟨vdS_last .., ?_⟩
  cases s.hv <;> decide
theorem strict_age (s : Sd) (q : D) (now ppm : Int) : jdS s q now ppm ≤ jdS s { q with n0 := if q.n0 < 0 then 3 else (nmT q.n0).tdiv 2 } now ppm := by
  have hv : ∃ v : Int, (if q.n0 < 0 then 3 else (nmT q.n0).tdiv 2) = v ∧ 0 ≤ v ∧ v ≤ 2147483647 ∧ (q.n0 < 0 ∨ v ≤ nmT q.n0) := by
    split
    · rename_i h; exact ⟨3, rfl, by decide, by decide, .inl h⟩
    · have h1 : 0 ≤ nmT q.n0 ∧ nmT q.n0 ≤ 2147483647 := by unfold nmT; omega
      rw [Int.tdiv_eq_ediv_of_nonneg h1.1]
      exact ⟨_, rfl, by omega, by omega, .inr (by omega)⟩
  obtain ⟨v, e, v0, v1, v2⟩ := hv
  rw [e]
  have hn : nmT v = v := by unfold nmT; omega
  unfold jdS
  show vdS _ _ _ _ _ _ _ _ _ _ ≤ vdS (usS s q now ppm) _ _ _ (nmT v) _ _ _ _ _
  rw [hn]
  refine vdS_age v0 ?_
  rcases v2 with h | h
  · left; unfold nmT; omega
  · exact .inr h
theorem strict_fresh (s : Sd) (q : D) (now ppm : Int) : jdS s q now ppm ≤ jdS s { q with n5 := max 0 q.n5 } now ppm := by
  unfold jdS
  show vdS _ _ _ _ _ _ _ _ _ _ ≤ vdS (usS s q now ppm) _ _ _ _ (nmT (max 0 q.n5)) _ _ _ _
  refine vdS_fresh ?_ ?_
  · unfold nmT; omega
  · unfold nmT; omega
/-! PolicyLater. -/
theorem jdS_later {s : Sd} {q : D} {a b ppm : Int} (h : a ≤ b) (hs : (atO s.tm a ppm).isSome = true) : jdS s q a ppm ≤ jdS s q b ppm := by
  obtain ⟨p, hp⟩ := Option.isSome_iff_exists.1 hs
  obtain ⟨r, hr, hle⟩ := atO_later h hp
  unfold jdS usS hiS
  rw [hp, hr]
  exact vdS_later hle
theorem oeS_later {s : Sd} {a b ppm : Int} (h : a ≤ b) (hs : (atO s.tm a ppm).isSome = true) (ho : oeS s b ppm = true) : oeS s a ppm = true := by
  obtain ⟨p, hp⟩ := Option.isSome_iff_exists.1 hs
  obtain ⟨r, hr, hle⟩ := atO_later h hp
  unfold oeS hiS at *
  rw [hr] at ho
  rw [hp]
  simp only [Option.isSome_some, Bool.true_and, Bool.and_eq_true, decide_eq_true_eq] at *
  exact ⟨ho.1, by omega⟩
/-! PolicyValidators. -/
theorem jdS_valid (s : Sd) (q : D) (now ppm : Int) :
    (jdS { s with hv := true } q now ppm = 4 ∧ jdS { s with hv := false } q now ppm = 5) ∨
    (jdS { s with hv := true } q now ppm = jdS { s with hv := false } q now ppm ∧ 1 ≤ jdS { s with hv := true } q now ppm ∧ jdS { s with hv := true } q now ppm ≤ 3) := by
  unfold jdS
  have h1 : ∀ b, usS { s with hv := b } q now ppm = usS s q now ppm := fun _ => rfl
  have h2 : ∀ b, hiS { s with hv := b } now ppm = hiS s now ppm := fun _ => rfl
  have h3 : ∀ b, lifeS { s with hv := b } = lifeS s := fun _ => rfl
  simp only [h1, h2, h3]
  unfold vdS
  generalize usS s q now ppm = us
  generalize (ccD s.fs).b4 = mr
  generalize decide (0 ≤ (ccD s.fs).n1) = sa
  (repeat' split) <;> first | (simp; done) | (exfalso; rename_i h1 h2; first | exact absurd h1 (by decide) | exact absurd h2 (by decide))
/-! PolicyPlain. -/
theorem jdS_nocache {s : Sd} {q : D} {now ppm : Int} (h : (ccD s.fs).b1 = true) : 4 ≤ jdS s q now ppm ∧ oeS s now ppm = false ∧ lmS s = 0 := by
  refine ⟨?_, ?_, ?_⟩
  · unfold jdS
    rw [show usS s q now ppm = false by unfold usS; rw [h]; simp, vdS_unusable]
    cases s.hv <;> decide
  · unfold oeS; rw [h]; simp
  · unfold lmS; rw [if_pos h]
def frS (x : Tm) (now ppm life : Int) : Bool := match atO x now ppm with | some p => decide (p.2 < life) | none => false
theorem jdS_plain {s : Sd} {now ppm : Int} (h : (ccD s.fs).b1 = false) : (decide (jdS s noneD now ppm = 1) = frS s.tm now ppm (lifeS s)) ∧ jdS s noneD now ppm ≠ 3 ∧ (jdS s noneD now ppm = 4 → s.hv = true) := by
  have hq : nmT noneD.n0 = -1 ∧ nmT noneD.n5 = -1 ∧ nmT noneD.n4 = -1 := by decide
  unfold jdS
  rw [hq.1, hq.2.1, hq.2.2]
  unfold usS hiS frS
  rw [h]
  cases ho : atO s.tm now ppm with
  | none =>
    simp only [Option.isSome_none, Bool.false_and]
    rw [vdS_unusable]
    cases s.hv <;> decide
  | some p =>
    simp only [Option.isSome_some, Bool.true_and, Bool.not_false, show noneD.b1 = false from rfl]
    unfold vdS
    cases s.hv <;> simp only [true_and, Bool.false_eq_true, if_false, if_true] <;> (repeat' split) <;> simp <;> omega
/-! What is served without a question is younger than the limit. -/
theorem jdS_limit {s : Sd} {q : D} {now ppm old : Int} (ho : ∀ p, atO s.tm now ppm = some p → old ≤ p.2) :
    (jdS s q now ppm = 1 → old < lifeS s) ∧ (jdS s q now ppm = 2 → old < lmS s) ∧ (oeS s now ppm = true → old < lmS s) := by
  have ha := alwS_bd s.fs
  have main : usS s q now ppm = true → old ≤ hiS s now ppm := by
    intro h
    unfold usS at h
    simp only [Bool.and_eq_true] at h
    obtain ⟨p, hp⟩ := Option.isSome_iff_exists.1 h.1.1
    unfold hiS; rw [hp]; exact ho p hp
  have hn : usS s q now ppm = true → (ccD s.fs).b1 = false := by
    intro h
    unfold usS at h
    simp only [Bool.and_eq_true, Bool.not_eq_true'] at h
    exact h.1.2
  refine ⟨fun h => ?_, fun h => ?_, fun h => ?_⟩
  · unfold jdS vdS at h
    split at h
    · rename_i hc
      have := main hc.1
      omega
    · split at h
      · omega
      · split at h
        · omega
        · split at h <;> omega
  · unfold jdS vdS at h
    split at h
    · omega
    · split at h
      · rename_i hc
        have := main hc.1
        unfold lmS; rw [hn hc.1, if_neg (by decide)]
        omega
      · split at h
        · omega
        · split at h <;> omega
  · unfold oeS at h
    simp only [Bool.and_eq_true, decide_eq_true_eq, Bool.not_eq_true'] at h
    obtain ⟨p, hp⟩ := Option.isSome_iff_exists.1 h.1.1
    have h2 := ho p hp
    have h3 := h.2
    unfold hiS at h3
    rw [hp] at h3
    unfold lmS; rw [h.1.2, if_neg (by decide)]
    simp only [] at h3
    omega
end Go.Proofs.YtocniclkooiggaaDoor

namespace Go.Proofs.YtocniclkooiggaaDoor
open Go

section
variable {P : Program} {ops : Array Oper} {Q : Exit → Act → World → Prop} {md : Region.Mode} {S : World → Prop} {s : Nat}

/-- Whatever order is picked from here on; until number s has come up, S holds behind every operation. -/
def wpAnyU (P : Program) (md : Region.Mode) (ops : Array Oper) (Q : Exit → Act → World → Prop) (S : World → Prop) (s : Nat) : Nat → Array Bool → Act → World → Prop
  | 0, listed, a, w => Region.ready md ops listed = [] ∧ Q .normal a w
  | fuel + 1, listed, a, w =>
    (Region.ready md ops listed = [] → Q .normal a w) ∧
    ∀ i ∈ Region.ready md ops listed, wpOp P ops Q i (fun a' w' => ((listed.setIfInBounds i true).getD s true = false → S w') ∧ wpAnyU P md ops Q S s fuel (listed.setIfInBounds i true) a' w') a w
theorem wpAny_of_U : ∀ (fuel : Nat) (listed : Array Bool) (a : Act) (w : World), wpAnyU P md ops Q S s fuel listed a w → wpAny P md ops Q fuel listed a w
  | 0, _, _, _, h => h
  | fuel + 1, _, _, _, h => ⟨h.1, fun i hi => wpOp_mono (fun a' w' h' => wpAny_of_U fuel _ a' w' h'.2) (h.2 i hi)⟩
theorem listed_stays {listed : Array Bool} {i : Nat} (h : listed.getD s true = true) : (listed.setIfInBounds i true).getD s true = true := by
  by_cases hi : i = s
  · subst hi
    simp [Array.getD]
  · rw [getD_set_ne true hi]; exact h
/-- Behind number s nothing more is asked. -/
theorem wpAnyU_after : ∀ (fuel : Nat) (listed : Array Bool) (a : Act) (w : World), listed.getD s true = true → wpAnyH P md ops Q (fun _ => True) fuel listed a w → wpAnyU P md ops Q S s fuel listed a w
  | 0, _, _, _, _, h => h
  | fuel + 1, listed, _, _, hs, h => ⟨h.1, fun i hi => wpOp_mono (fun a' w' h' => ⟨(fun e => by rw [listed_stays hs] at e; cases e), wpAnyU_after fuel _ a' w' (listed_stays hs) h'.2⟩) (h.2 i hi)⟩
/-- Each of D waits for i or for another one of D. -/
def depB (md : Region.Mode) (ops : Array Oper) (i : Nat) (D : List Nat) : Bool :=
  D.all fun d => match ops[d]? with
    | some o => o.after.any fun e => Region.binds md e && (e.on == i || D.contains e.on)
    | none => false
def unB (listed : Array Bool) (D : List Nat) : Bool := D.all fun d => !listed.getD d true
theorem dep_notready {listed : Array Bool} {i : Nat} {D : List Nat} (hd : depB md ops i D = true) (hu : unB listed D = true) (hi : listed.getD i true = false) {j : Nat} (hj : j ∈ Region.ready md ops listed) : j ∉ D := by
  intro hjD
  have h1 := List.all_eq_true.1 hd j hjD
  obtain ⟨_, oj, hoj, hall⟩ := mem_ready.1 hj
  rw [hoj] at h1
  obtain ⟨e, he, hb⟩ := Array.any_eq_true'.1 h1
  simp only [Bool.and_eq_true, Bool.or_eq_true, beq_iff_eq, List.contains_eq_mem, decide_eq_true_eq] at hb
  have h2 := hall e he hb.1
  have h3 : listed.getD e.on true = false := by
    rcases hb.2 with h | h
    · rw [h]; exact hi
    · simpa using List.all_eq_true.1 hu _ h
  rw [Array.getD_eq_getD_getElem?] at h2 h3
  rcases Nat.lt_or_ge e.on listed.size with hl | hl
  · rw [Array.getElem?_eq_getElem hl] at h2 h3
    simp at h2 h3
    rw [h2] at h3; cases h3
  · rw [Array.getElem?_eq_none hl] at h3
    simp at h3
theorem un_set {listed : Array Bool} {D : List Nat} (hu : unB listed D = true) {j : Nat} (hj : j ∉ D) : unB (listed.setIfInBounds j true) D = true := by
  unfold unB at *
  rw [List.all_eq_true] at *
  intro d hd
  have hne : j ≠ d := fun e => hj (e ▸ hd)
  rw [getD_set_ne true hne]
  exact hu d hd
theorem wpAnyU_first {i : Nat} {oi : Oper} {v : Value} (D : List Nat) (hsD : s ∈ D) (hiD : i ∉ D) (hd : depB md ops i D = true) (hi : ops[i]? = some oi)
    (hsel : ∀ (j : Nat) (o : Oper) cs b, ops[j]? = some o → o.op ≠ .select cs b)
    (hQ : ∀ c a w, Q (.panic c) (a.put oi.dst v) w → Q (.panic c) a w) :
    ∀ (fuel : Nat) (listed : Array Bool) (a : Act) (w : World),
      (∀ j oj, ops[j]? = some oj → j ≠ i → listed.getD j true = false → (∀ e ∈ oj.after, Region.binds md e = true → e.on ≠ i) → oi.apart ops oj = true) →
      i ∈ Region.ready md ops listed → unB listed D = true → YieldsIf P ops S oi v a → S w →
      wpAnyU P md ops Q S s fuel (listed.setIfInBounds i true) (a.put oi.dst v) w → wpAnyU P md ops Q S s (fuel + 1) listed a w := by
  intro fuel
  induction fuel with
  | zero =>
    intro listed a w _ hr hu hy hS H
    refine ⟨fun h => (by rw [h] at hr; cases hr), fun j hj => ?_⟩
    by_cases hji : j = i
    · subst hji; exact hy.wpOp hi hS ⟨fun _ => hS, H⟩
    · have := ready_mono hj hji
      rw [H.1] at this
      cases this
  | succ fuel ih =>
    intro listed a w hfree hr hu hy hS H
    refine ⟨fun h => (by rw [h] at hr; cases hr), fun j hj => ?_⟩
    by_cases hji : j = i
    · subst hji; exact hy.wpOp hi hS ⟨fun _ => hS, H⟩
    · have hun := (mem_ready.1 hr).1
      have h1 := H.2 j (ready_mono hj hji)
      obtain ⟨hjun, oj, hoj, hall⟩ := mem_ready.1 hj
      have hnot : ∀ e ∈ oj.after, Region.binds md e = true → e.on ≠ i := fun e he hb heq => by
        have h1 := hall e he hb
        rw [heq] at h1
        rcases Nat.lt_or_ge i listed.size with h' | h'
        · simp [h'] at hun h1; rw [hun] at h1; cases h1
        · simp [Array.getElem?_eq_none h'] at h1
      have hjD := dep_notready hd hu hun hj
      have h2 := wpOp_putIf hoj (hfree j oj hoj hji hjun hnot) (fun cs b => hsel i oi cs b hi) (fun cs b => hsel j oj cs b hoj) hQ hy h1
      have hfree' : ∀ k ok, ops[k]? = some ok → k ≠ i → (listed.setIfInBounds j true).getD k true = false →
          (∀ e ∈ ok.after, Region.binds md e = true → e.on ≠ i) → oi.apart ops ok = true := fun k ok hk hki hun hno => by
        refine hfree k ok hk hki ?_ hno
        by_cases hjk : j = k
        · subst hjk; exact hjun
        · rw [getD_set_ne true hjk] at hun; exact hun
      have hsu : (listed.setIfInBounds j true).getD s true = false := by
        have := List.all_eq_true.1 (un_set hu hjD) s hsD
        simpa using this
      have hsu2 : ((listed.setIfInBounds i true).setIfInBounds j true).getD s true = false := by
        have := List.all_eq_true.1 (un_set (un_set hu hiD) hjD) s hsD
        simpa using this
      refine wpOp_mono (fun a' w' h3 => ⟨fun _ => h3.2.1 hsu2, ih (listed.setIfInBounds j true) a' w' hfree' (ready_mono hr (Ne.symm hji)) (un_set hu hjD) h3.1 (h3.2.1 hsu2) ?_⟩) h2
      rw [Array.setIfInBounds_comm _ _ hji]
      exact h3.2.2
theorem wpAnyU_take {i : Nat} {oi : Oper} {v : Value} {fuel : Nat} {listed : Array Bool} {a : Act} {w : World} (D : List Nat) (hsD : D.contains s = true) (hiD : D.contains i = false) (hd : depB md ops i D = true) (hu : unB listed D = true)
    (hi : ops[i]? = some oi)
    (hs : Region.noSelect ops = true) (hf : Region.free md ops listed i = true) (hr : (Region.ready md ops listed).contains i = true)
    (hQ : ∀ c a w, Q (.panic c) (a.put oi.dst v) w → Q (.panic c) a w) (hy : YieldsIf P ops S oi v a) (hS : S w)
    (h : wpAnyU P md ops Q S s fuel (listed.setIfInBounds i true) (a.put oi.dst v) w) : wpAnyU P md ops Q S s (fuel + 1) listed a w :=
  wpAnyU_first D (by simpa using hsD) (by simpa using hiD) hd hi (Region.noSelect_spec hs) hQ fuel listed a w (Region.free_spec hi hf) (by simpa using hr) hu hy hS h
theorem wpAnyU_firstW {i : Nat} {oi : Oper} {v : Value} (his : i ≠ s) (hi : ops[i]? = some oi)
    (hsel : ∀ (j : Nat) (o : Oper) cs b, ops[j]? = some o → o.op ≠ .select cs b)
    (hQ : ∀ c a w, Q (.panic c) (a.put oi.dst v) w → Q (.panic c) a w) :
    ∀ (fuel : Nat) (listed : Array Bool) (a : Act) (w : World),
      (∀ j oj, ops[j]? = some oj → j ≠ i → listed.getD j true = false → (∀ e ∈ oj.after, Region.binds md e = true → e.on ≠ i) → oi.apart ops oj = true) →
      i ∈ Region.ready md ops listed → YieldsIf P ops (fun _ => True) oi v a → (listed.getD s true = false → S w) →
      wpAnyU P md ops Q S s fuel (listed.setIfInBounds i true) (a.put oi.dst v) w → wpAnyU P md ops Q S s (fuel + 1) listed a w := by
  intro fuel
  induction fuel with
  | zero =>
    intro listed a w _ hr hy hS H
    refine ⟨fun h => (by rw [h] at hr; cases hr), fun j hj => ?_⟩
    by_cases hji : j = i
    · subst hji; exact hy.wpOp hi trivial ⟨fun e => hS (by rwa [getD_set_ne true his] at e), H⟩
    · have := ready_mono hj hji
      rw [H.1] at this
      cases this
  | succ fuel ih =>
    intro listed a w hfree hr hy hS H
    refine ⟨fun h => (by rw [h] at hr; cases hr), fun j hj => ?_⟩
    by_cases hji : j = i
    · subst hji; exact hy.wpOp hi trivial ⟨fun e => hS (by rwa [getD_set_ne true his] at e), H⟩
    · have hun := (mem_ready.1 hr).1
      have h1 := H.2 j (ready_mono hj hji)
      obtain ⟨hjun, oj, hoj, hall⟩ := mem_ready.1 hj
      have hnot : ∀ e ∈ oj.after, Region.binds md e = true → e.on ≠ i := fun e he hb heq => by
        have h1 := hall e he hb
        rw [heq] at h1
        rcases Nat.lt_or_ge i listed.size with h' | h'
        · simp [h'] at hun h1; rw [hun] at h1; cases h1
        · simp [Array.getElem?_eq_none h'] at h1
      have h2 := wpOp_putIf hoj (hfree j oj hoj hji hjun hnot) (fun cs b => hsel i oi cs b hi) (fun cs b => hsel j oj cs b hoj) hQ hy h1
      have hfree' : ∀ k ok, ops[k]? = some ok → k ≠ i → (listed.setIfInBounds j true).getD k true = false →
          (∀ e ∈ ok.after, Region.binds md e = true → e.on ≠ i) → oi.apart ops ok = true := fun k ok hk hki hun hno => by
        refine hfree k ok hk hki ?_ hno
        by_cases hjk : j = k
        · subst hjk; exact hjun
        · rw [getD_set_ne true hjk] at hun; exact hun
      have hcomm : (listed.setIfInBounds i true).setIfInBounds j true = (listed.setIfInBounds j true).setIfInBounds i true := Array.setIfInBounds_comm _ _ (Ne.symm hji)
      have hsS : (listed.setIfInBounds j true).getD s true = false → ((listed.setIfInBounds i true).setIfInBounds j true).getD s true = false := fun e => by
        rw [hcomm, getD_set_ne true his]; exact e
      refine wpOp_mono (fun a' w' h3 => ⟨fun e => h3.2.1 (hsS e), ih (listed.setIfInBounds j true) a' w' hfree' (ready_mono hr (Ne.symm hji)) h3.1 (fun e => h3.2.1 (hsS e)) ?_⟩) h2
      rw [Array.setIfInBounds_comm _ _ hji]
      exact h3.2.2
/-- What yields in whatever world is taken first, wherever it stands. -/
theorem wpAnyU_takeW {i : Nat} {oi : Oper} {v : Value} {fuel : Nat} {listed : Array Bool} {a : Act} {w : World} (his : (i == s) = false)
    (hi : ops[i]? = some oi)
    (hs : Region.noSelect ops = true) (hf : Region.free md ops listed i = true) (hr : (Region.ready md ops listed).contains i = true)
    (hQ : ∀ c a w, Q (.panic c) (a.put oi.dst v) w → Q (.panic c) a w) (hy : YieldsIf P ops (fun _ => True) oi v a) (hS : S w)
    (h : wpAnyU P md ops Q S s fuel (listed.setIfInBounds i true) (a.put oi.dst v) w) : wpAnyU P md ops Q S s (fuel + 1) listed a w :=
  wpAnyU_firstW (by simpa using his) hi (Region.noSelect_spec hs) hQ fuel listed a w (Region.free_spec hi hf) (by simpa using hr) hy (fun _ => hS) h
def AllReadyU (P : Program) (md : Region.Mode) (ops : Array Oper) (Q : Exit → Act → World → Prop) (S : World → Prop) (s : Nat) (fuel : Nat) (listed : Array Bool) (a : Act) (w : World) (rs : List Nat) : Prop :=
  ∀ i ∈ rs, wpOp P ops Q i (fun a' w' => ((listed.setIfInBounds i true).getD s true = false → S w') ∧ wpAnyU P md ops Q S s fuel (listed.setIfInBounds i true) a' w') a w
theorem AllReadyU.nil {fuel : Nat} {listed : Array Bool} {a : Act} {w : World} : AllReadyU P md ops Q S s fuel listed a w [] := fun _ h => by cases h
/-- Ahead of number s: S is shown, and handed on. -/
theorem AllReadyU.cons {fuel : Nat} {listed : Array Bool} {a : Act} {w : World} {i : Nat} {o : Oper} {rs : List Nat} (ho : ops[i]? = some o)
    (h : ∀ K' : Act → World → Prop, Shut (∀ a w, S w → (S w → wpAnyU P md ops Q S s fuel (listed.setIfInBounds i true) a w) → K' a w) → if Region.wanted o (yielded ops a.tmps) = true then Oper.wp P o a w K' Q else K' (a.put o.dst undef) w)
    (hs : AllReadyU P md ops Q S s fuel listed a w rs) : AllReadyU P md ops Q S s fuel listed a w (i :: rs) := fun j hj => by
  rcases List.mem_cons.1 hj with rfl | hj
  · exact wpOp_step ho (fun K' hK => h K' (fun a w hS hW => hK a w ⟨fun _ => hS, hW hS⟩))
  · exact hs j hj
/-- At number s itself: nothing is shown, and nothing more is asked behind it. -/
theorem AllReadyU.stop {fuel : Nat} {listed : Array Bool} {a : Act} {w : World} {o : Oper} {rs : List Nat} (ho : ops[s]? = some o) (hl : (listed.setIfInBounds s true).getD s true = true)
    (h : ∀ K' : Act → World → Prop, Shut (∀ a w, True → (True → wpAnyH P md ops Q (fun _ => True) fuel (listed.setIfInBounds s true) a w) → K' a w) → if Region.wanted o (yielded ops a.tmps) = true then Oper.wp P o a w K' Q else K' (a.put o.dst undef) w)
    (hs : AllReadyU P md ops Q S s fuel listed a w rs) : AllReadyU P md ops Q S s fuel listed a w (s :: rs) := fun j hj => by
  rcases List.mem_cons.1 hj with rfl | hj
  · exact wpOp_step ho (fun K' hK => h K' (fun a w _ hW => hK a w ⟨(fun e => by rw [hl] at e; cases e), wpAnyU_after _ _ _ _ hl (hW trivial)⟩))
  · exact hs j hj
theorem wpAnyU_ready {rs : List Nat} {fuel : Nat} {listed : Array Bool} {a : Act} {w : World} (hr : Region.ready md ops listed = rs) (hne : rs ≠ [])
    (h : AllReadyU P md ops Q S s fuel listed a w rs) : wpAnyU P md ops Q S s (fuel + 1) listed a w :=
  ⟨fun h0 => absurd (hr ▸ h0) hne, hr ▸ h⟩
theorem wp_region_U {id : Nat} {a : Act} {w : World} (s : Nat) (hm : P.follows .mixedOrders = true) (hS : S w.drew)
    (h : S w.drew → wpAnyU P .any ops Q S s ops.size (Array.replicate ops.size false) a w.drew) : (Code.region id ops true).wp P Q a w :=
  wp_region_any hm (wpAny_of_U _ _ _ _ (h hS))
end

/-! Whole structs loaded and stored inside such a region. -/
section
variable {P : Program} {ops : Array Oper} {o : Oper} {a : Act} {w : World} {K : Act → World → Prop} {Q : Exit → Act → World → Prop} {E : Prop}
theorem step_loadB (hgd : o.guard = none) (ty : TypeId) (x : Operand) (ho : o.op = .load ty x)
    (g : Nat) (hx : a.eval x = .pointer (some ⟨g, 0, none⟩)) (t : TypeId) (cs : Array Value) (hg : Blk w g t cs) (fs : Array Field)
    (hu : P.underlying ty = some (.struct fs)) (hi : (P.info? ty).map (·.size) = some cs.size)
    (h : K (a.put o.dst (.agg cs)) w) : if Region.wanted o (yielded ops a.tmps) = true then Oper.wp P o a w K Q else E := by
  rw [if_pos (by simp [Region.wanted, hgd])]
  exact wp_load_row ty x ho g hx t cs (0, 0) _ hg hu rfl hi h
theorem step_storeB (hgd : o.guard = none) (ty : TypeId) (x y : Operand) (ho : o.op = .store ty x y)
    (hd : o.dst = none) (g : Nat) (cells : Array Value) (hx : a.eval x = .pointer (some ⟨g, 0, none⟩)) (hy : a.eval y = .agg cells)
    (t : TypeId) (old : Array Value) (hg : Blk w g t old) (hi : (P.info? ty).map (·.size) = some cells.size)
    (hold : old.size = cells.size) (h1 : cells.all (·.oneCell') = true)
    (h : ∀ w', Blk w' g t cells → ExtB g w w' → K a w') : if Region.wanted o (yielded ops a.tmps) = true then Oper.wp P o a w K Q else E := by
  rw [if_pos (by simp [Region.wanted, hgd])]
  refine wp_store_row ty x y ho g cells hx hy t old hg hi hold h1 ?_
  rw [hd]
  exact h _ (setRow_heap w g old cells t (0, 0) hg) ⟨rfl, rfl, rfl, by simp, fun k _ hne => setRow_other w g k cells (fun e => hne (by rw [e]))⟩
/-- A whole struct, loaded ahead of all else. -/
theorem yield_loadB {S : World → Prop} (hgd : o.guard = none) (ty : TypeId) (x : Operand) (ho : o.op = .load ty x)
    (g : Nat) (hx : a.eval x = .pointer (some ⟨g, 0, none⟩)) (t : TypeId) (cs : Array Value) (hg : ∀ w, S w → Blk w g t cs) (fs : Array Field)
    (hu : P.underlying ty = some (.struct fs)) (hi : (P.info? ty).map (·.size) = some cs.size) : YieldsIf P ops S o (.agg cs) a := by
  refine .inl ⟨by simp [Region.wanted, hgd], fun w hS => ?_⟩
  unfold execOp
  simp only [ho, hx, Instr.loadAt, Instr.sureAddr, Sem.run_bind, Sem.run_pure, Result.andThen_ok, run_loadVar_row w g t ty cs (0, 0) _ (hg w hS) hu rfl hi]
end
end Go.Proofs.YtocniclkooiggaaDoor

namespace Go.Proofs.YtocniclkooiggaaDoor
open Go.RowKit

theorem ret_n {a b : Int} (h : a = b) : Ending.returned (.int .i64 a) = .returned (.int .i64 b) := by rw [h]
theorem ret_t {a b : Value} (h : a = b) : Ending.returned a = .returned b := by rw [h]
set_option maxHeartbeats 1000000 in
theorem clock_limited (n l : Int) (w : World) : Calls Tryd.prog 51 #[.int .i64 n, .int .i64 l] w fun e w' => e = .returned (.int .i64 (max 0 (min n l))) ∧ w' = w := by
  go_enter Tryd.func51, Tryd.ntmps51
  go_wp2_with fail
  all_goals
    go_ret
    exact ⟨ret_n (by omega), rfl⟩
set_option maxHeartbeats 1000000 in
theorem age_clip (n : Int) (w : World) : Calls Tryd.prog 38 #[.int .i64 n] w fun e w' => e = .returned (.int .i64 (clT n)) ∧ w' = w := by
  go_enter Tryd.func38, Tryd.ntmps38
  go_wp2_with fail
  all_goals
    go_ret
    exact ⟨ret_n (by unfold clT; omega), rfl⟩
set_option maxHeartbeats 1000000 in
theorem clock_up (a b : Int) (w : World) (h0 : 0 ≤ a) (h1 : a ≤ 2305843009213693952) (h2 : 1 ≤ b) (h3 : b ≤ 1099511627776) : Calls Tryd.prog 52 #[.int .i64 a, .int .i64 b] w fun e w' => e = .returned (.int .i64 ((a + b - 1) / b)) ∧ w' = w := by
  have q1 : (a + b - 1).tdiv b = (a + b - 1) / b := Int.tdiv_eq_ediv_of_nonneg (by omega)
  have q2 := ediv_bd (a := a + b - 1) (b := b) (by omega) h2
  obtain ⟨q3, q4⟩ := q2
  have z : (b == 0) = false := by rw [beq_eq_false_iff_ne]; omega
  have z2 : b ≠ 0 := by omega
  generalize (a + b - 1) / b = Q at *
  go_enter Tryd.func52, Tryd.ntmps52
  go_wp2_with fail
  go_ret
  exact ⟨rfl, rfl⟩
set_option maxHeartbeats 4000000 in
theorem clock_Elapsed (d p : Int) (w : World) : Calls Tryd.prog 39 #[.int .i64 d, .int .i64 p] w fun e w' => e = .returned (.tuple #[.int .i64 (elLo (clT d) (clP p)), .int .i64 (elHi (clT d) (clP p))]) ∧ w' = w := by
  have hL := clock_limited d 1099511627776
  have hM := clock_limited p 100000
  have HL := Lib.hid (show ∀ w, Calls Tryd.prog 51 #[.int .i64 d, .int .i64 1099511627776] w fun e w' => e = .returned (.int .i64 (clT d)) ∧ w' = w from hL)
  have HM := Lib.hid (show ∀ w, Calls Tryd.prog 51 #[.int .i64 p, .int .i64 100000] w fun e w' => e = .returned (.int .i64 (clP p)) ∧ w' = w from hM)
  clear hL hM
  obtain ⟨t0, t1⟩ := clT_bd d
  obtain ⟨p0, p1⟩ := clP_bd p
  generalize clT d = D at *
  generalize clP p = R at *
  have hu : elHi D R = ((D + 1) * 1000000 + (1000000 - R) - 1) / (1000000 - R) - 1 := rfl
  have hb0 := elHi_pos t0 p0 p1
  have hb1 := elHi_le t0 p0 p1
  have HU := Lib.hid (clock_up ((D + 1) * 1000000) (1000000 - R))
  have Hu := Lib.hid (show ((D + 1) * 1000000 + (1000000 - R) - 1) / (1000000 - R) = elHi D R + 1 by omega)
  clear hu
  generalize elHi D R = EH at *
  by_cases hd : 0 < D
  · have Hl := Lib.hid (show elLo D R = (D - 1) * 1000000 / (1000000 + R) + 1 from if_pos hd)
    have q1 : ((D - 1) * 1000000).tdiv (1000000 + R) = (D - 1) * 1000000 / (1000000 + R) := Int.tdiv_eq_ediv_of_nonneg (by omega)
    obtain ⟨q3, q4⟩ := ediv_bd (a := (D - 1) * 1000000) (b := 1000000 + R) (by omega) (by omega)
    have z2 : 1000000 + R ≠ 0 := by omega
    have z : (1000000 + R == 0) = false := by rw [beq_eq_false_iff_ne]; omega
    generalize hQ : (D - 1) * 1000000 / (1000000 + R) = Q at *
    generalize elLo D R = EL at *
    go_enter Tryd.func39, Tryd.ntmps39
    go_wp2_with fail
    refine (HL.out _).mono ?_; rintro e w1 ⟨rfl, rfl⟩
    go_wp2_with fail
    refine (HM.out _).mono ?_; rintro e w1 ⟨rfl, rfl⟩
    go_wp2_with fail
    refine (HU.out _ (by omega) (by omega) (by omega) (by omega)).mono ?_; rintro e w1 ⟨rfl, rfl⟩
    rw [Hu.out]
    go_wp2_with fail
    go_ret2
    exact ⟨ret_t (by rw [Hl.out]; (try rw [q1]); first | rfl | (congr 4; omega)), rfl⟩
  · have Hl := Lib.hid (show elLo D R = 0 from if_neg hd)
    generalize elLo D R = EL at *
    go_enter Tryd.func39, Tryd.ntmps39
    go_wp2_with fail
    refine (HL.out _).mono ?_; rintro e w1 ⟨rfl, rfl⟩
    go_wp2_with fail
    refine (HM.out _).mono ?_; rintro e w1 ⟨rfl, rfl⟩
    go_wp2_with fail
    refine (HU.out _ (by omega) (by omega) (by omega) (by omega)).mono ?_; rintro e w1 ⟨rfl, rfl⟩
    rw [Hu.out]
    go_wp2_with fail
    go_ret2
    exact ⟨ret_t (by rw [Hl.out]; first | rfl | (congr 4; omega)), rfl⟩

def atV : Option (Int × Int) → Value
  | none => .tuple #[.int .i64 0, .int .i64 0, .iface 85 (.int .i64 7)]
  | some p => .tuple #[.int .i64 p.1, .int .i64 p.2, .nilIface]
set_option maxHeartbeats 4000000 in
set_option maxRecDepth 100000 in
theorem age_At (se re ag now ppm : Int) (w : World) : Calls Tryd.prog 19 #[.agg #[.int .i64 se, .int .i64 re, .int .i64 ag], .int .i64 now, .int .i64 ppm] w fun e w' => e = .returned (atV (atO ⟨se, re, ag⟩ now ppm)) ∧ Ext w w' := by
  have HS := Lib.hid (age_clip se)
  have HR := Lib.hid (age_clip re)
  have HN := Lib.hid (age_clip now)
  have HO := Lib.hid (show atO ⟨se, re, ag⟩ now ppm = if clT re < clT se ∨ clT now < clT re then none
    else some (elLo (clT now - clT re) (clP ppm), elHi (clT now - clT se) (clP ppm) + exA ag) from rfl)
  have HE := Lib.hid (fun (d : Int) (w : World) (h : clT d = d) => show Calls Tryd.prog 39 #[.int .i64 d, .int .i64 ppm] w fun e w' => e = .returned (.tuple #[.int .i64 (elLo d (clP ppm)), .int .i64 (elHi d (clP ppm))]) ∧ w' = w by
    have := clock_Elapsed d ppm w
    rw [h] at this; exact this)
  obtain ⟨s0, s1⟩ := clT_bd se
  obtain ⟨r0, r1⟩ := clT_bd re
  obtain ⟨n0, n1⟩ := clT_bd now
  obtain ⟨p0, p1⟩ := clP_bd ppm
  have HX := Lib.hid (⟨exA_bd ag, rfl⟩ : (0 ≤ exA ag ∧ exA ag ≤ 2147483648000) ∧ exA ag = if 0 ≤ ag then (min ag 2147483647 + 1) * 1000 else 0)
  generalize atO ⟨se, re, ag⟩ now ppm = O at *
  generalize clT se = S at *
  generalize clT re = R at *
  generalize clT now = N at *
  generalize clP ppm = P at *
  generalize exA ag = X at *
  have HB := Lib.hid (Blk.new w 32 #[.int .i64 se, .int .i64 re, .int .i64 ag])
  have hE := (Ext.refl w).alloc (.cells #[.int .i64 se, .int .i64 re, .int .i64 ag] 32)
  go_enter Tryd.func19, Tryd.ntmps19
  go_wp2_with fail
  generalize w.alloc (.cells #[.int .i64 se, .int .i64 re, .int .i64 ag] 32) = W0 at *
  generalize w.heap.size = b at *
  have HW := Lib.hid hE; clear hE
  refine wp_region_held_drew (S := (fun w' => w'.cell? ⟨b, 0, none⟩ = some (.int .i64 se) ∧ w'.cell? ⟨b, 1, none⟩ = some (.int .i64 re))) (by kernel_rfl) ?_ (fun hHeld => ?_)
  · (try dsimp only); exact ⟨HB.out.cell 0, HB.out.cell 1⟩
  refine wpAnyH_take (i := 0) (oi := { dst := some 11, op := _, type := _, pos := _, after := _, guard := _ }) (v := ?_) rfl (by kernel_rfl) (by kernel_rfl) (by kernel_rfl) (fun _ _ _ h => h) (Or.inl ⟨by rfl, ?_⟩) (by assumption) ?_
  rotate_left
  · (intro w hSw; (try dsimp only at hSw); go_simp; (try with_reducible rfl))
  (try simp only [Act.put, List.setIfInBounds_toArray, List.set_cons_zero, List.set_cons_succ])
  refine wpAnyH_take (i := 1) (oi := { dst := some 12, op := _, type := _, pos := _, after := _, guard := _ }) (v := ?_) rfl (by kernel_rfl) (by kernel_rfl) (by kernel_rfl) (fun _ _ _ h => h) (Or.inl ⟨by rfl, ?_⟩) (by assumption) ?_
  rotate_left
  · (intro w hSw; (try dsimp only at hSw); go_simp; (try with_reducible rfl))
  (try simp only [Act.put, List.setIfInBounds_toArray, List.set_cons_zero, List.set_cons_succ])
  refine wpAnyH_take (i := 3) (oi := { dst := some 14, op := _, type := _, pos := _, after := _, guard := _ }) (v := ?_) rfl (by kernel_rfl) (by kernel_rfl) (by kernel_rfl) (fun _ _ _ h => h) (Or.inl ⟨by rfl, ?_⟩) (by assumption) ?_
  rotate_left
  · (intro w hSw; (try dsimp only at hSw); go_simp; (try with_reducible rfl))
  (try simp only [Act.put, List.setIfInBounds_toArray, List.set_cons_zero, List.set_cons_succ])
  refine wpAnyH_take (i := 4) (oi := { dst := some 15, op := _, type := _, pos := _, after := _, guard := _ }) (v := ?_) rfl (by kernel_rfl) (by kernel_rfl) (by kernel_rfl) (fun _ _ _ h => h) (Or.inl ⟨by rfl, ?_⟩) (by assumption) ?_
  rotate_left
  · (intro w hSw; (try dsimp only at hSw); go_simp; (try with_reducible rfl))
  (try simp only [Act.put, List.setIfInBounds_toArray, List.set_cons_zero, List.set_cons_succ])
  refine wpAnyH_ready (rs := [2]) (by kernel_rfl) (by simp) ?_
  refine AllReadyH.cons (o := { dst := some 13, op := _, type := _, pos := _, after := _, guard := _ }) rfl (fun K hK => ?_) AllReadyH.nil
  go_simp
  refine (HS.out _).mono ?_; rintro e w1 ⟨rfl, rfl⟩
  try go_wp2_with fail
  refine hK.out _ _ ?_ (fun hHeld => ?_)
  · (try dsimp only); exact ⟨HB.out.cell 0, HB.out.cell 1⟩
  clear hK K
  (try simp only [Act.put, List.setIfInBounds_toArray, List.set_cons_zero, List.set_cons_succ])
  refine wpAnyH_ready (rs := [5]) (by kernel_rfl) (by simp) ?_
  refine AllReadyH.cons (o := { dst := some 16, op := _, type := _, pos := _, after := _, guard := _ }) rfl (fun K hK => ?_) AllReadyH.nil
  go_simp
  refine (HR.out _).mono ?_; rintro e w1 ⟨rfl, rfl⟩
  try go_wp2_with fail
  refine hK.out _ _ ?_ (fun hHeld => ?_)
  · (try dsimp only); exact ⟨HB.out.cell 0, HB.out.cell 1⟩
  clear hK K
  (try simp only [Act.put, List.setIfInBounds_toArray, List.set_cons_zero, List.set_cons_succ])
  refine wpAnyH_take (i := 6) (oi := { dst := some 9, op := _, type := _, pos := _, after := _, guard := _ }) (v := ?_) rfl (by kernel_rfl) (by kernel_rfl) (by kernel_rfl) (fun _ _ _ h => h) (Or.inl ⟨by rfl, ?_⟩) (by assumption) ?_
  rotate_left
  · (intro w hSw; (try dsimp only at hSw); go_simp; (try with_reducible rfl))
  (try simp only [Act.put, List.setIfInBounds_toArray, List.set_cons_zero, List.set_cons_succ])
  refine wpAnyH_take (i := 7) (oi := { dst := some 10, op := _, type := _, pos := _, after := _, guard := _ }) (v := ?_) rfl (by kernel_rfl) (by kernel_rfl) (by kernel_rfl) (fun _ _ _ h => h) (Or.inl ⟨by rfl, ?_⟩) (by assumption) ?_
  rotate_left
  · (intro w hSw; (try dsimp only at hSw); go_simp; (try with_reducible rfl))
  (try simp only [Act.put, List.setIfInBounds_toArray, List.set_cons_zero, List.set_cons_succ])
  refine wpAnyH_done (by kernel_rfl) ?_ _
  go_wp2_with fail
  refine (HN.out _).mono ?_; rintro e w1 ⟨rfl, rfl⟩
  have c2 := HB.out.cell 2
  by_cases hc : R < S ∨ N < R
  · have HL := Lib.hid (show O = none by rw [HO.out, if_pos hc])
    clear HO
    rcases hc with hc | hc
    · go_wp2_with fail
      go_ret3
      exact ⟨ret_t (by rw [HL.out]; rfl), HW.out.drew⟩
    · by_cases hc2 : R < S
      all_goals
        go_wp2_with fail
        go_ret3
        exact ⟨ret_t (by rw [HL.out]; rfl), HW.out.drew⟩
  · have HL := Lib.hid (show O = some (elLo (N - R) P, elHi (N - S) P + X) by rw [HO.out, if_neg hc])
    have hc1 : ¬ R < S := fun h => hc (.inl h)
    have hc2 : ¬ N < R := fun h => hc (.inr h)
    clear HO hc
    have hd1 : clT (N - R) = N - R := clT_id (by omega) (by omega)
    have hd2 : clT (N - S) = N - S := clT_id (by omega) (by omega)
    have HD := Lib.hid (⟨hd1, hd2⟩ : _ ∧ _)
    clear hd1 hd2
    have k1 := elHi_pos (d := N - S) (p := P) (by omega) p0 p1
    have k2 := elHi_le (d := N - S) (p := P) (by omega) p0 p1
    have HE1 := Lib.hid (HE.out (N - R))
    have HE2 := Lib.hid (HE.out (N - S))
    clear HE
    generalize elLo (N - R) P = EL at *
    generalize elHi (N - S) P = EH at *
    go_wp2_with fail
    refine (HE1.out _ HD.out.1).mono ?_; rintro e w1 ⟨rfl, rfl⟩
    go_wp2_with fail
    refine (HE2.out _ HD.out.2).mono ?_; rintro e w1 ⟨rfl, rfl⟩
    by_cases ha : 0 ≤ ag
    · by_cases hg : 2147483647 ≤ ag
      · have HX2 := Lib.hid (show X = 2147483648000 by rw [HX.out.2, if_pos ha]; omega)
        go_wp2_with fail
        all_goals
          go_ret3
          exact ⟨ret_t (by rw [HL.out, HX2.out]; first | rfl | (refine congrArg (fun x => Value.tuple #[.int .i64 EL, .int .i64 x, .nilIface]) ?_; omega)), HW.out.drew⟩
      · have HX2 := Lib.hid (show X = (ag + 1) * 1000 by rw [HX.out.2, if_pos ha]; omega)
        go_wp2_with fail
        all_goals
          go_ret3
          exact ⟨ret_t (by rw [HL.out, HX2.out]; first | rfl | (refine congrArg (fun x => Value.tuple #[.int .i64 EL, .int .i64 x, .nilIface]) ?_; omega)), HW.out.drew⟩
    · have HX2 := Lib.hid (show X = 0 by rw [HX.out.2, if_neg ha])
      go_wp2_with fail
      go_ret3
      exact ⟨ret_t (by rw [HL.out, HX2.out]; first | rfl | (unfold atV; simp)), HW.out.drew⟩
set_option maxHeartbeats 2000000 in
theorem age_Field (se re ag now ppm : Int) (w : World) : Calls Tryd.prog 13 #[.agg #[.int .i64 se, .int .i64 re, .int .i64 ag], .int .i64 now, .int .i64 ppm] w fun e w' =>
    e = .returned (match atO ⟨se, re, ag⟩ now ppm with | some p => .tuple #[.int .i64 (p.2 / 1000), .nilIface] | none => .tuple #[.int .i64 0, .iface 85 (.int .i64 7)]) ∧ Ext w w' := by
  have HA := Lib.hid (age_At se re ag now ppm)
  have hbd := fun p (h : atO ⟨se, re, ag⟩ now ppm = some p) => atO_bd h
  generalize atO ⟨se, re, ag⟩ now ppm = O at *
  have Hb := Lib.hid hbd; clear hbd
  have HW := Lib.hid ((Ext.refl w).alloc (.cells #[.int .i64 se, .int .i64 re, .int .i64 ag] 32))
  go_enter Tryd.func13, Tryd.ntmps13
  go_wp2_with fail
  refine (HA.out _).mono ?_; rintro e w1 ⟨rfl, hb1⟩
  cases O with
  | none =>
    unfold atV
    go_wp2_with fail
    go_ret2
    exact ⟨rfl, HW.out.trans hb1⟩
  | some p =>
    obtain ⟨_, _, q0, q1⟩ := Hb.out _ rfl
    obtain ⟨lo, hi⟩ := p
    unfold atV
    simp only [] at q0 q1 ⊢
    have q2 : hi.tdiv 1000 = hi / 1000 := Int.tdiv_eq_ediv_of_nonneg q0
    go_wp2_with fail
    go_ret2
    exact ⟨by first | rfl | (rw [q2]; rfl), HW.out.trans hb1⟩
set_option maxHeartbeats 2000000 in
theorem age_Fresh (se re ag now ppm l : Int) (w : World) : Calls Tryd.prog 28 #[.agg #[.int .i64 se, .int .i64 re, .int .i64 ag], .int .i64 now, .int .i64 ppm, .int .i64 l] w fun e w' =>
    e = .returned (.bool (match atO ⟨se, re, ag⟩ now ppm with | some p => decide (p.2 < l) | none => false)) ∧ Ext w w' := by
  have HA := Lib.hid (age_At se re ag now ppm)
  generalize atO ⟨se, re, ag⟩ now ppm = O at *
  have HW := Lib.hid ((Ext.refl w).alloc (.cells #[.int .i64 se, .int .i64 re, .int .i64 ag] 32))
  go_enter Tryd.func28, Tryd.ntmps28
  go_wp2_with fail
  refine (HA.out _).mono ?_; rintro e w1 ⟨rfl, hb1⟩
  cases O with
  | none =>
    unfold atV
    go_wp2_with fail
    go_ret
    exact ⟨rfl, HW.out.trans hb1⟩
  | some p =>
    obtain ⟨lo, hi⟩ := p
    unfold atV
    go_wp2_with fail
    go_ret
    exact ⟨rfl, HW.out.trans hb1⟩
end Go.Proofs.YtocniclkooiggaaDoor
