
/- The walk of ValidatorRanges: it returns true. -/
import Derived.Test.YtghaopeijncgaaaDoorPl10b
import Derived.Test.YtghaopeijncgaaaDoorEv5
namespace Go.Proofs.YtghaopeijncgaaaDoor
open Go.RowKit

theorem sum_ifr (v : ByteArray) : sumF [(ifrN, v)] = v.size + 8 := by
  rw [sumF_cons, sumF_nil]; show 8 + v.size + 0 = _; omega
theorem rd_one (w : World) (v : ByteArray) (t : TypeId) : RdF (w.alloc (.cells #[.string ifrN, .string v] t)) (some ⟨w.heap.size, 0, none⟩) 1 [(ifrN, v)] :=
  Rd.lit w #[.string ifrN, .string v] t rfl 2 1 rfl
set_option maxHeartbeats 4000000 in
set_option maxRecDepth 100000 in
theorem law_at (v : ByteArray) (gS : Nat) (tw : Bool) (tt : ByteArray) (w : World) (hB : Blk w gS 61 #[.bool true, .bool true, .bool true, .bool tw, .string tt, .int .i64 784111777]) (hg : GlH w) (hv : v.size ≤ 2000) :
    Calls Tryd.prog 31 #[.string v, .pointer (some ⟨gS, 0, none⟩)] w fun e w' => e = .returned (.bool (urV v (stR tw tt))) ∧ Ext w w' := by
  have hE0 := (Ext.refl w).alloc (.cells #[.string ⟨#[73, 102, 45, 82, 97, 110, 103, 101]⟩, .string v] 70)
  have hU := fun w' h => val_UseRange getM (some ⟨w.heap.size, 0, none⟩) 1 1 [(ifrN, v)] (stR tw tt) w' ((rd_one w v 70).ext h) (by decide) ((bsz_of_sum _).mono (by rw [sum_ifr]; omega)) (by rw [sum_ifr]; omega) (by rw [sum_ifr]; omega) (hg.ext (hE0.trans h))
  have hB0 := hB.ext hE0
  rw [ur_one] at hU
  have HU := Lib.hid hU; clear hU
  have HE := Lib.hid hE0
  clear hE0
  have HBq := Lib.hid hB
  clear hB hB0
  obtain ⟨c0, c1, c2, c3, c4, c5⟩ := (show (w.alloc (.cells #[.string ⟨#[73, 102, 45, 82, 97, 110, 103, 101]⟩, .string v] 70)).cell? ⟨gS, 0, none⟩ = some (.bool true) ∧ (w.alloc (.cells #[.string ⟨#[73, 102, 45, 82, 97, 110, 103, 101]⟩, .string v] 70)).cell? ⟨gS, 1, none⟩ = some (.bool true) ∧ (w.alloc (.cells #[.string ⟨#[73, 102, 45, 82, 97, 110, 103, 101]⟩, .string v] 70)).cell? ⟨gS, 2, none⟩ = some (.bool true) ∧ (w.alloc (.cells #[.string ⟨#[73, 102, 45, 82, 97, 110, 103, 101]⟩, .string v] 70)).cell? ⟨gS, 3, none⟩ = some (.bool tw) ∧ (w.alloc (.cells #[.string ⟨#[73, 102, 45, 82, 97, 110, 103, 101]⟩, .string v] 70)).cell? ⟨gS, 4, none⟩ = some (.string tt) ∧ (w.alloc (.cells #[.string ⟨#[73, 102, 45, 82, 97, 110, 103, 101]⟩, .string v] 70)).cell? ⟨gS, 5, none⟩ = some (.int .i64 784111777) from ⟨(HBq.out.ext HE.out).cell 0, (HBq.out.ext HE.out).cell 1, (HBq.out.ext HE.out).cell 2, (HBq.out.ext HE.out).cell 3, (HBq.out.ext HE.out).cell 4, (HBq.out.ext HE.out).cell 5⟩)
  go_enter Tryd.func31, Tryd.ntmps31
  go_wp2_with fail
  refine (HU.out _ (Ext.refl _)).mono ?_; rintro e w1 ⟨rfl, hb1⟩
  go_wp2_with fail
  go_ret
  exact ⟨rfl, HE.out.trans hb1⟩

set_option maxHeartbeats 16000000 in
set_option maxRecDepth 100000 in
theorem ranges_walk (tw : Bool) (tt other : ByteArray) (w : World) (hs : tt.size ≤ 140737488351232) (ho : other.size ≤ 140737488351232) (hg : GlH w) :
    Calls Tryd.prog 9 #[.agg #[.bool tw, .string tt], .string other] w fun e w' => e = .returned (.bool true) ∧ Ext w w' := by
  have hmf : ∀ (fn : Fn) (first cap : Array Value) (w : World), (Instr.makeFunc fn first cap).run Tryd.prog w = .ok (.func fn first cap) w := fun _ _ _ _ => rfl
  have hB := Blk.new w 29 #[.bool tw, .string tt]
  have hE0 := (Ext.refl w).alloc (.cells #[.bool tw, .string tt] 29)
  go_enter Tryd.func9, Tryd.ntmps9
  go_wp2_with fail
  generalize w.alloc (.cells #[.bool tw, .string tt] 29) = W0 at *
  have HC := Lib.hid (show ∀ w', Ext W0 w' → (w'.cell? ⟨w.heap.size, 0, none⟩ = some (.bool tw) ∧ w'.cell? ⟨w.heap.size, 1, none⟩ = some (.string tt)) ∧ w.heap.size < w'.heap.size from fun w' h => ⟨⟨(hB.ext h).cell 0, (hB.ext h).cell 1⟩, (hB.ext h).lt⟩)
  clear hB
  have HE0 := Lib.hid hE0
  clear hE0
  refine (law_awake _).mono ?_; rintro e w1 ⟨rfl, hb1⟩
  obtain ⟨⟨c0, c1⟩, hlt1⟩ := HC.out _ hb1
  by_cases hl : tt.size + other.size ≤ 500
  rotate_left
  · go_wp2_with fail
    refine (law_awake _).mono ?_; rintro e w2 ⟨rfl, hb2⟩
    go_wp2_with fail
    go_ret
    exact ⟨rfl, HE0.out.trans (hb1.trans hb2)⟩
  have Hl := Lib.hid hl
  go_wp2_with fail
  refine (law_tag tw tt _).mono ?_; rintro e w2 ⟨rfl, hb2⟩
  go_wp2_with fail
  refine (val_WriteTag tw tt _ (by omega)).mono ?_; rintro e w3 ⟨rfl, hb3⟩
  have h3 := (hb1.trans hb2).trans hb3
  clear c0 c1 hlt1 hb1 hb2 hb3
  obtain ⟨⟨c0, c1⟩, hlt1⟩ := HC.out _ h3
  cases hr : wrO tw tt with
  | none =>
    rw [show (none : Option ByteArray).getD ⟨#[]⟩ = ⟨#[]⟩ from rfl, show errV (wrE none) = .iface 34 (.int .i64 2) from rfl]
    clear hr
    go_wp2_with fail
    go_ret
    exact ⟨rfl, HE0.out.trans h3⟩
  | some W =>
    have Hr := Lib.hid hr
    have Hws := Lib.hid (show W.size ≤ 504 by have := wr_size hr; omega)
    rw [show (some W).getD ⟨#[]⟩ = W from rfl, show errV (wrE (some W)) = .nilIface from rfl]
    clear hr hl
    go_wp2_with fail
    refine (law_tag tw tt _).mono ?_; rintro e w4 ⟨rfl, hb4⟩
    have h4 := h3.trans hb4
    clear c0 c1 hlt1 hb4 h3
    obtain ⟨⟨c0, c1⟩, hlt1⟩ := HC.out _ h4
    go_wp2_with fail
    have hS := Blk.new w4 61 #[.bool true, .bool true, .bool true, .bool tw, .string tt, .int .i64 784111777]
    have h5 := h4.alloc (.cells #[.bool true, .bool true, .bool true, .bool tw, .string tt, .int .i64 784111777] 61)
    generalize w4.alloc (.cells #[.bool true, .bool true, .bool true, .bool tw, .string tt, .int .i64 784111777] 61) = w5 at *
    generalize w4.heap.size = gS at *
    have HC5 := Lib.hid (show ∀ w', Ext w5 w' → (w'.cell? ⟨w.heap.size, 0, none⟩ = some (.bool tw) ∧ w'.cell? ⟨w.heap.size, 1, none⟩ = some (.string tt) ∧ w'.cell? ⟨gS, 0, none⟩ = some (.bool true) ∧ w'.cell? ⟨gS, 1, none⟩ = some (.bool true) ∧ w'.cell? ⟨gS, 2, none⟩ = some (.bool true) ∧ w'.cell? ⟨gS, 3, none⟩ = some (.bool tw) ∧ w'.cell? ⟨gS, 4, none⟩ = some (.string tt) ∧ w'.cell? ⟨gS, 5, none⟩ = some (.int .i64 784111777)) from fun w' h => ⟨(HC.out _ (h5.trans h)).1.1, (HC.out _ (h5.trans h)).1.2, (hS.ext h).cell 0, (hS.ext h).cell 1, (hS.ext h).cell 2, (hS.ext h).cell 3, (hS.ext h).cell 4, (hS.ext h).cell 5⟩)
    have HG5 := Lib.hid (fun w' (h : Ext w5 w') => hg.ext (HE0.out.trans (h5.trans h)))
    have HA := Lib.hid (fun v (hv : v.size ≤ 2000) w' (h : Ext w5 w') => law_at v gS tw tt w' (hS.ext h) (HG5.out w' h) hv)
    have HE5 := Lib.hid (HE0.out.trans h5)
    have A1 := Lib.hid (fun w' (h : Ext w5 w') => HA.out W (by have := Hws.out; omega) w' h)
    have A2 := Lib.hid (fun w' (h : Ext w5 w') => HA.out (wsP ++ W) (by rw [ByteArray.size_append, show wsP.size = 2 from rfl]; have := Hws.out; omega) w' h)
    have A3 := Lib.hid (fun w' (h : Ext w5 w') => HA.out d37 (by decide) w' h)
    have A4 := Lib.hid (fun w' (h : Ext w5 w') => HA.out d38 (by decide) w' h)
    have U5 := Lib.hid (fun w' (h : Ext w5 w') => val_UseRange headM none 0 0 [] (stR tw tt) w' (Rd.none_ _ _ _) (by decide) (fun f hf => by cases hf) (by decide) (by decide) (HG5.out w' h))
    have U6 := Lib.hid (fun w' (h : Ext w5 w') => val_UseRange getM none 0 0 [] (stR tw tt) w' (Rd.none_ _ _ _) (by decide) (fun f hf => by cases hf) (by decide) (by decide) (HG5.out w' h))
    rw [ur_text Hr.out] at A1
    rw [ur_weak Hr.out] at A2
    rw [ur_d37] at A3
    rw [ur_d38] at A4
    rw [ur_head] at U5
    rw [ur_nil] at U6
    have hcat : (9223372036854775807 < 2 + W.size) = False := eq_false (by have := Hws.out; omega)
    have hnt : (!tw != !tw) = false := by cases tw <;> rfl
    have HP := Lib.hid (show (⟨#[87, 47]⟩ : ByteArray) ++ W = wsP ++ W from rfl)
    clear HC hS h5 h4 HE0 hg c0 c1 hlt1 HG5
    have hE := (Ext.refl w5).drew
    refine wp_region_held_drew (S := (fun w' => w'.cell? ⟨w.heap.size, 0, none⟩ = some (.bool tw) ∧ w'.cell? ⟨w.heap.size, 1, none⟩ = some (.string tt) ∧ w'.cell? ⟨gS, 0, none⟩ = some (.bool true) ∧ w'.cell? ⟨gS, 1, none⟩ = some (.bool true) ∧ w'.cell? ⟨gS, 2, none⟩ = some (.bool true) ∧ w'.cell? ⟨gS, 3, none⟩ = some (.bool tw) ∧ w'.cell? ⟨gS, 4, none⟩ = some (.string tt) ∧ w'.cell? ⟨gS, 5, none⟩ = some (.int .i64 784111777))) (by kernel_rfl) ?_ (fun hHeld => ?_)
    · (try dsimp only); exact HC5.out _ hE
    refine wpAnyH_take (i := 0) (oi := { dst := some 34, op := _, type := _, pos := _, after := _, guard := _ }) (v := ?_) rfl (by kernel_rfl) (by kernel_rfl) (by kernel_rfl) (fun _ _ _ h => h) (Or.inl ⟨by rfl, ?_⟩) (by assumption) ?_
    rotate_left
    · (intro w hSw; (try dsimp only at hSw); go_simp; (try with_reducible rfl))
    (try simp only [Act.put, List.setIfInBounds_toArray, List.set_cons_zero, List.set_cons_succ])
    refine wpAnyH_take (i := 1) (oi := { dst := some 35, op := _, type := _, pos := _, after := _, guard := _ }) (v := ?_) rfl (by kernel_rfl) (by kernel_rfl) (by kernel_rfl) (fun _ _ _ h => h) (Or.inl ⟨by rfl, ?_⟩) (by assumption) ?_
    rotate_left
    · (intro w hSw; (try dsimp only at hSw); go_simp; (try with_reducible rfl))
    (try simp only [Act.put, List.setIfInBounds_toArray, List.set_cons_zero, List.set_cons_succ])
    refine wpAnyH_take (i := 3) (oi := { dst := some 37, op := _, type := _, pos := _, after := _, guard := _ }) (v := ?_) rfl (by kernel_rfl) (by kernel_rfl) (by kernel_rfl) (fun _ _ _ h => h) (Or.inl ⟨by rfl, ?_⟩) (by assumption) ?_
    rotate_left
    · (intro w hSw; (try dsimp only at hSw); go_simp; (try with_reducible rfl))
    (try simp only [Act.put, List.setIfInBounds_toArray, List.set_cons_zero, List.set_cons_succ])
    refine wpAnyH_take (i := 4) (oi := { dst := some 38, op := _, type := _, pos := _, after := _, guard := _ }) (v := ?_) rfl (by kernel_rfl) (by kernel_rfl) (by kernel_rfl) (fun _ _ _ h => h) (Or.inl ⟨by rfl, ?_⟩) (by assumption) ?_
    rotate_left
    · (intro w hSw; (try dsimp only at hSw); go_simp; (try with_reducible rfl))
    (try simp only [Act.put, List.setIfInBounds_toArray, List.set_cons_zero, List.set_cons_succ])
    refine wpAnyH_take (i := 5) (oi := { dst := some 39, op := _, type := _, pos := _, after := _, guard := _ }) (v := ?_) rfl (by kernel_rfl) (by kernel_rfl) (by kernel_rfl) (fun _ _ _ h => h) (Or.inl ⟨by rfl, ?_⟩) (by assumption) ?_
    rotate_left
    · (intro w hSw; (try dsimp only at hSw); go_simp; (try with_reducible rfl))
    (try simp only [Act.put, List.setIfInBounds_toArray, List.set_cons_zero, List.set_cons_succ])
    refine wpAnyH_ready (rs := [2]) (by kernel_rfl) (by simp) ?_
    refine AllReadyH.cons (o := { dst := some 36, op := _, type := _, pos := _, after := _, guard := _ }) rfl (fun K hK => ?_) AllReadyH.nil
    go_simp
    refine (A1.out _ hE).mono ?_; rintro e w6 ⟨rfl, hb6⟩; replace hE := hE.trans hb6; clear hb6
    try go_wp2_with fail
    refine hK.out _ _ ?_ (fun hHeld => ?_)
    · (try dsimp only); exact HC5.out _ hE
    clear hK K
    (try simp only [Act.put, List.setIfInBounds_toArray, List.set_cons_zero, List.set_cons_succ])
    refine wpAnyH_take (i := 6) (oi := { dst := some 40, op := _, type := _, pos := _, after := _, guard := _ }) (v := ?_) rfl (by kernel_rfl) (by kernel_rfl) (by kernel_rfl) (fun _ _ _ h => h) (Or.inl ⟨by rfl, ?_⟩) (by assumption) ?_
    rotate_left
    · (intro w hSw; (try dsimp only at hSw); go_simp; (try with_reducible rfl))
    (try simp only [Act.put, List.setIfInBounds_toArray, List.set_cons_zero, List.set_cons_succ])
    refine wpAnyH_take (i := 7) (oi := { dst := some 41, op := _, type := _, pos := _, after := _, guard := _ }) (v := ?_) rfl (by kernel_rfl) (by kernel_rfl) (by kernel_rfl) (fun _ _ _ h => h) (Or.inl ⟨by rfl, ?_⟩) (by assumption) ?_
    rotate_left
    · (intro w hSw; (try dsimp only at hSw); go_simp; (try with_reducible rfl))
    (try simp only [Act.put, List.setIfInBounds_toArray, List.set_cons_zero, List.set_cons_succ])
    refine wpAnyH_take (i := 8) (oi := { dst := some 42, op := _, type := _, pos := _, after := _, guard := _ }) (v := ?_) rfl (by kernel_rfl) (by kernel_rfl) (by kernel_rfl) (fun _ _ _ h => h) (Or.inl ⟨by rfl, ?_⟩) (by assumption) ?_
    rotate_left
    · (intro w hSw; (try dsimp only at hSw); go_simp; (try with_reducible rfl))
    (try simp only [Act.put, List.setIfInBounds_toArray, List.set_cons_zero, List.set_cons_succ])
    refine wpAnyH_take (i := 9) (oi := { dst := some 43, op := _, type := _, pos := _, after := _, guard := _ }) (v := ?_) rfl (by kernel_rfl) (by kernel_rfl) (by kernel_rfl) (fun _ _ _ h => h) (Or.inl ⟨by rfl, ?_⟩) (by assumption) ?_
    rotate_left
    · (intro w hSw; (try dsimp only at hSw); go_simp; (try with_reducible rfl))
    (try simp only [Act.put, List.setIfInBounds_toArray, List.set_cons_zero, List.set_cons_succ])
    refine wpAnyH_take (i := 10) (oi := { dst := some 44, op := _, type := _, pos := _, after := _, guard := _ }) (v := ?_) rfl (by kernel_rfl) (by kernel_rfl) (by kernel_rfl) (fun _ _ _ h => h) (Or.inl ⟨by rfl, ?_⟩) (by assumption) ?_
    rotate_left
    · (intro w hSw; (try dsimp only at hSw); go_simp; (try with_reducible rfl))
    (try simp only [Act.put, List.setIfInBounds_toArray, List.set_cons_zero, List.set_cons_succ])
    refine wpAnyH_ready (rs := [11]) (by kernel_rfl) (by simp) ?_
    refine AllReadyH.cons (o := { dst := some 45, op := _, type := _, pos := _, after := _, guard := _ }) rfl (fun K hK => ?_) AllReadyH.nil
    go_simp
    refine (A2.out _ hE).mono ?_; rintro e w6 ⟨rfl, hb6⟩; replace hE := hE.trans hb6; clear hb6
    try go_wp2_with fail
    refine hK.out _ _ ?_ (fun hHeld => ?_)
    · (try dsimp only); exact HC5.out _ hE
    clear hK K
    (try simp only [Act.put, List.setIfInBounds_toArray, List.set_cons_zero, List.set_cons_succ])
    refine wpAnyH_take (i := 12) (oi := { dst := some 46, op := _, type := _, pos := _, after := _, guard := _ }) (v := ?_) rfl (by kernel_rfl) (by kernel_rfl) (by kernel_rfl) (fun _ _ _ h => h) (Or.inl ⟨by rfl, ?_⟩) (by assumption) ?_
    rotate_left
    · (intro w hSw; (try dsimp only at hSw); go_simp; (try with_reducible rfl))
    (try simp only [Act.put, List.setIfInBounds_toArray, List.set_cons_zero, List.set_cons_succ])
    refine wpAnyH_take (i := 13) (oi := { dst := some 47, op := _, type := _, pos := _, after := _, guard := _ }) (v := ?_) rfl (by kernel_rfl) (by kernel_rfl) (by kernel_rfl) (fun _ _ _ h => h) (Or.inl ⟨by rfl, ?_⟩) (by assumption) ?_
    rotate_left
    · (intro w hSw; (try dsimp only at hSw); go_simp; (try with_reducible rfl))
    (try simp only [Act.put, List.setIfInBounds_toArray, List.set_cons_zero, List.set_cons_succ])
    refine wpAnyH_take (i := 14) (oi := { dst := some 48, op := _, type := _, pos := _, after := _, guard := _ }) (v := ?_) rfl (by kernel_rfl) (by kernel_rfl) (by kernel_rfl) (fun _ _ _ h => h) (Or.inl ⟨by rfl, ?_⟩) (by assumption) ?_
    rotate_left
    · (intro w hSw; (try dsimp only at hSw); go_simp; (try with_reducible rfl))
    (try simp only [Act.put, List.setIfInBounds_toArray, List.set_cons_zero, List.set_cons_succ])
    refine wpAnyH_ready (rs := [15]) (by kernel_rfl) (by simp) ?_
    refine AllReadyH.cons (o := { dst := some 49, op := _, type := _, pos := _, after := _, guard := _ }) rfl (fun K hK => ?_) AllReadyH.nil
    go_simp
    refine (A3.out _ hE).mono ?_; rintro e w6 ⟨rfl, hb6⟩; replace hE := hE.trans hb6; clear hb6
    try go_wp2_with fail
    refine hK.out _ _ ?_ (fun hHeld => ?_)
    · (try dsimp only); exact HC5.out _ hE
    clear hK K
    (try simp only [Act.put, List.setIfInBounds_toArray, List.set_cons_zero, List.set_cons_succ])
    refine wpAnyH_take (i := 16) (oi := { dst := some 50, op := _, type := _, pos := _, after := _, guard := _ }) (v := ?_) rfl (by kernel_rfl) (by kernel_rfl) (by kernel_rfl) (fun _ _ _ h => h) (Or.inl ⟨by rfl, ?_⟩) (by assumption) ?_
    rotate_left
    · (intro w hSw; (try dsimp only at hSw); go_simp; (try with_reducible rfl))
    (try simp only [Act.put, List.setIfInBounds_toArray, List.set_cons_zero, List.set_cons_succ])
    refine wpAnyH_take (i := 17) (oi := { dst := some 51, op := _, type := _, pos := _, after := _, guard := _ }) (v := ?_) rfl (by kernel_rfl) (by kernel_rfl) (by kernel_rfl) (fun _ _ _ h => h) (Or.inl ⟨by rfl, ?_⟩) (by assumption) ?_
    rotate_left
    · (intro w hSw; (try dsimp only at hSw); go_simp; (try with_reducible rfl))
    (try simp only [Act.put, List.setIfInBounds_toArray, List.set_cons_zero, List.set_cons_succ])
    refine wpAnyH_take (i := 18) (oi := { dst := some 52, op := _, type := _, pos := _, after := _, guard := _ }) (v := ?_) rfl (by kernel_rfl) (by kernel_rfl) (by kernel_rfl) (fun _ _ _ h => h) (Or.inl ⟨by rfl, ?_⟩) (by assumption) ?_
    rotate_left
    · (intro w hSw; (try dsimp only at hSw); go_simp; (try with_reducible rfl))
    (try simp only [Act.put, List.setIfInBounds_toArray, List.set_cons_zero, List.set_cons_succ])
    refine wpAnyH_take (i := 19) (oi := { dst := some 53, op := _, type := _, pos := _, after := _, guard := _ }) (v := ?_) rfl (by kernel_rfl) (by kernel_rfl) (by kernel_rfl) (fun _ _ _ h => h) (Or.inl ⟨by rfl, ?_⟩) (by assumption) ?_
    rotate_left
    · (intro w hSw; (try dsimp only at hSw); go_simp; (try with_reducible rfl))
    (try simp only [Act.put, List.setIfInBounds_toArray, List.set_cons_zero, List.set_cons_succ])
    refine wpAnyH_ready (rs := [20]) (by kernel_rfl) (by simp) ?_
    refine AllReadyH.cons (o := { dst := some 54, op := _, type := _, pos := _, after := _, guard := _ }) rfl (fun K hK => ?_) AllReadyH.nil
    go_simp
    refine (A4.out _ hE).mono ?_; rintro e w6 ⟨rfl, hb6⟩; replace hE := hE.trans hb6; clear hb6
    try go_wp2_with fail
    refine hK.out _ _ ?_ (fun hHeld => ?_)
    · (try dsimp only); exact HC5.out _ hE
    clear hK K
    (try simp only [Act.put, List.setIfInBounds_toArray, List.set_cons_zero, List.set_cons_succ])
    refine wpAnyH_take (i := 21) (oi := { dst := some 55, op := _, type := _, pos := _, after := _, guard := _ }) (v := ?_) rfl (by kernel_rfl) (by kernel_rfl) (by kernel_rfl) (fun _ _ _ h => h) (Or.inl ⟨by rfl, ?_⟩) (by assumption) ?_
    rotate_left
    · (intro w hSw; (try dsimp only at hSw); go_simp; (try with_reducible rfl))
    (try simp only [Act.put, List.setIfInBounds_toArray, List.set_cons_zero, List.set_cons_succ])
    refine wpAnyH_take (i := 22) (oi := { dst := some 56, op := _, type := _, pos := _, after := _, guard := _ }) (v := ?_) rfl (by kernel_rfl) (by kernel_rfl) (by kernel_rfl) (fun _ _ _ h => h) (Or.inl ⟨by rfl, ?_⟩) (by assumption) ?_
    rotate_left
    · (intro w hSw; (try dsimp only at hSw); go_simp; (try with_reducible rfl))
    (try simp only [Act.put, List.setIfInBounds_toArray, List.set_cons_zero, List.set_cons_succ])
    refine wpAnyH_take (i := 23) (oi := { dst := some 57, op := _, type := _, pos := _, after := _, guard := _ }) (v := ?_) rfl (by kernel_rfl) (by kernel_rfl) (by kernel_rfl) (fun _ _ _ h => h) (Or.inl ⟨by rfl, ?_⟩) (by assumption) ?_
    rotate_left
    · (intro w hSw; (try dsimp only at hSw); go_simp; (try with_reducible rfl))
    (try simp only [Act.put, List.setIfInBounds_toArray, List.set_cons_zero, List.set_cons_succ])
    refine wpAnyH_ready (rs := [24]) (by kernel_rfl) (by simp) ?_
    refine AllReadyH.cons (o := { dst := some 58, op := _, type := _, pos := _, after := _, guard := _ }) rfl (fun K hK => ?_) AllReadyH.nil
    go_simp
    refine (U5.out _ hE).mono ?_; rintro e w6 ⟨rfl, hb6⟩; replace hE := hE.trans hb6; clear hb6
    try go_wp2_with fail
    refine hK.out _ _ ?_ (fun hHeld => ?_)
    · (try dsimp only); exact HC5.out _ hE
    clear hK K
    (try simp only [Act.put, List.setIfInBounds_toArray, List.set_cons_zero, List.set_cons_succ])
    refine wpAnyH_take (i := 25) (oi := { dst := some 59, op := _, type := _, pos := _, after := _, guard := _ }) (v := ?_) rfl (by kernel_rfl) (by kernel_rfl) (by kernel_rfl) (fun _ _ _ h => h) (Or.inl ⟨by rfl, ?_⟩) (by assumption) ?_
    rotate_left
    · (intro w hSw; (try dsimp only at hSw); go_simp; (try with_reducible rfl))
    (try simp only [Act.put, List.setIfInBounds_toArray, List.set_cons_zero, List.set_cons_succ])
    refine wpAnyH_take (i := 26) (oi := { dst := some 60, op := _, type := _, pos := _, after := _, guard := _ }) (v := ?_) rfl (by kernel_rfl) (by kernel_rfl) (by kernel_rfl) (fun _ _ _ h => h) (Or.inl ⟨by rfl, ?_⟩) (by assumption) ?_
    rotate_left
    · (intro w hSw; (try dsimp only at hSw); go_simp; (try with_reducible rfl))
    (try simp only [Act.put, List.setIfInBounds_toArray, List.set_cons_zero, List.set_cons_succ])
    refine wpAnyH_take (i := 27) (oi := { dst := some 61, op := _, type := _, pos := _, after := _, guard := _ }) (v := ?_) rfl (by kernel_rfl) (by kernel_rfl) (by kernel_rfl) (fun _ _ _ h => h) (Or.inl ⟨by rfl, ?_⟩) (by assumption) ?_
    rotate_left
    · (intro w hSw; (try dsimp only at hSw); go_simp; (try with_reducible rfl))
    (try simp only [Act.put, List.setIfInBounds_toArray, List.set_cons_zero, List.set_cons_succ])
    refine wpAnyH_ready (rs := [28]) (by kernel_rfl) (by simp) ?_
    refine AllReadyH.cons (o := { dst := some 62, op := _, type := _, pos := _, after := _, guard := _ }) rfl (fun K hK => ?_) AllReadyH.nil
    go_simp
    refine (U6.out _ hE).mono ?_; rintro e w6 ⟨rfl, hb6⟩; replace hE := hE.trans hb6; clear hb6
    try go_wp2_with fail
    refine hK.out _ _ ?_ (fun hHeld => ?_)
    · (try dsimp only); exact HC5.out _ hE
    clear hK K
    (try simp only [Act.put, List.setIfInBounds_toArray, List.set_cons_zero, List.set_cons_succ])
    refine wpAnyH_take (i := 29) (oi := { dst := some 63, op := _, type := _, pos := _, after := _, guard := _ }) (v := ?_) rfl (by kernel_rfl) (by kernel_rfl) (by kernel_rfl) (fun _ _ _ h => h) (Or.inl ⟨by rfl, ?_⟩) (by assumption) ?_
    rotate_left
    · (intro w hSw; (try dsimp only at hSw); go_simp; (try with_reducible rfl))
    (try simp only [Act.put, List.setIfInBounds_toArray, List.set_cons_zero, List.set_cons_succ])
    refine wpAnyH_take (i := 30) (oi := { dst := some 64, op := _, type := _, pos := _, after := _, guard := _ }) (v := ?_) rfl (by kernel_rfl) (by kernel_rfl) (by kernel_rfl) (fun _ _ _ h => h) (Or.inl ⟨by rfl, ?_⟩) (by assumption) ?_
    rotate_left
    · (intro w hSw; (try dsimp only at hSw); go_simp; (try with_reducible rfl))
    (try simp only [Act.put, List.setIfInBounds_toArray, List.set_cons_zero, List.set_cons_succ])
    refine wpAnyH_done (by kernel_rfl) ?_ _
    have HE6 := Lib.hid hE
    clear hE A1 A2 A3 A4 U5 U6 hHeld
    go_wp2_with fail
    refine (val_WriteTag false other _ (by have := Hl.out; omega)).mono ?_; rintro e w7 ⟨rfl, hb7⟩
    have hE7 := HE6.out.trans hb7
    obtain ⟨c0, c1, s0, s1, s2, s3, s4, s5⟩ := HC5.out _ hE7
    cases hr2 : wrO false other with
    | none =>
      rw [show (none : Option ByteArray).getD ⟨#[]⟩ = ⟨#[]⟩ from rfl, show errV (wrE none) = .iface 34 (.int .i64 2) from rfl]
      clear hr2
      go_wp2_with fail
      go_ret
      exact ⟨rfl, HE5.out.trans hE7⟩
    | some W2 =>
      rw [show (some W2).getD ⟨#[]⟩ = W2 from rfl, show errV (wrE (some W2)) = .nilIface from rfl]
      have hw2 : W2.size ≤ 2000 := by have := wr_size hr2; have := Hl.out; omega
      by_cases heq : other = tt
      · have hee : (other.toList == tt.toList) = true := eqS_iff.2 heq
        clear heq hr2
        go_wp2_with fail
        go_ret
        exact ⟨rfl, HE5.out.trans hE7⟩
      · have hee : (other.toList == tt.toList) = false := eqS_no heq
        have A7 := Lib.hid (HA.out W2 hw2 _ hE7)
        rw [ur_other hr2 heq] at A7
        clear heq hr2
        go_wp2_with fail
        refine A7.out.mono ?_; rintro e w8 ⟨rfl, hb8⟩
        go_wp2_with fail
        go_ret
        exact ⟨rfl, HE5.out.trans (hE7.trans hb8)⟩
end Go.Proofs.YtghaopeijncgaaaDoor
