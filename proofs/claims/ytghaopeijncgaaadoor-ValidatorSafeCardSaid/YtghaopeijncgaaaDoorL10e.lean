
/- The walks of ValidatorEvaluates and ValidatorPrecedence: each returns true. -/
import Derived.Test.YtghaopeijncgaaaDoorPl10b
import Derived.Test.YtghaopeijncgaaaDoorEv5
import Derived.Test.YtghaopeijncgaaaDoorSet
namespace Go.Proofs.YtghaopeijncgaaaDoor
open Go.RowKit

theorem own_at {w : World} {base e k n c : Nat} {A : Option Addr} {xs : List Value} (h : w.ownsRow base e k (.slice A n c) n xs) : ∀ a, A = some a → base ≤ a.block ∧ a.block < w.heap.size :=
  fun a ha => h.lt a.block (by subst ha; rfl)

set_option maxHeartbeats 16000000 in
set_option maxRecDepth 100000 in
theorem evaluates_walk (m : ByteArray) (A : Option Addr) (n c : Nat) (fs : List Fd) (st : St) (w : World) (hf : RdF w A n fs) (hn : n ≤ 9223372036854775807) (hsz : Bsz 140737488351232 fs) (hg : GlH w) :
    Calls Tryd.prog 7 #[.agg #[.string m, .slice A n c, .bool st.ex, .bool st.ht, .bool st.hm, .bool st.tw, .string st.tt, .int .i64 st.md]] w fun e w' => e = .returned (.bool true) ∧ Ext w w' := by
  have hl := hf.lenF
  have Hl := Lib.hid hl; clear hl
  obtain ⟨ex, ht, hm, tw, tt, md⟩ := st
  have hE0 := (Ext.refl w).alloc (.cells #[.string m, .slice A n c, .bool ex, .bool ht, .bool hm, .bool tw, .string tt, .int .i64 md] 54)
  have hB := Blk.new w 54 #[.string m, .slice A n c, .bool ex, .bool ht, .bool hm, .bool tw, .string tt, .int .i64 md]
  go_enter Tryd.func7, Tryd.ntmps7
  go_wp2_with fail
  generalize w.alloc (.cells #[.string m, .slice A n c, .bool ex, .bool ht, .bool hm, .bool tw, .string tt, .int .i64 md] 54) = W0 at *
  have HC := Lib.hid (show ∀ w', Ext W0 w' → (w'.cell? ⟨w.heap.size, 0, none⟩ = some (.string m) ∧ w'.cell? ⟨w.heap.size, 1, none⟩ = some (.slice A n c) ∧ w'.cell? ⟨w.heap.size, 2, none⟩ = some (.bool ex) ∧ w'.cell? ⟨w.heap.size, 3, none⟩ = some (.bool ht) ∧ w'.cell? ⟨w.heap.size, 4, none⟩ = some (.bool hm) ∧ w'.cell? ⟨w.heap.size, 5, none⟩ = some (.bool tw) ∧ w'.cell? ⟨w.heap.size, 6, none⟩ = some (.string tt) ∧ w'.cell? ⟨w.heap.size, 7, none⟩ = some (.int .i64 md)) ∧ w.heap.size < w'.heap.size from fun w' h => ⟨⟨(hB.ext h).cell 0, (hB.ext h).cell 1, (hB.ext h).cell 2, (hB.ext h).cell 3, (hB.ext h).cell 4, (hB.ext h).cell 5, (hB.ext h).cell 6, (hB.ext h).cell 7⟩, (hB.ext h).lt⟩)
  have hlt0 := hB.lt
  clear hB
  refine (law_awake _).mono ?_; rintro e w1 ⟨rfl, hb1⟩
  obtain ⟨⟨c0, c1, c2, c3, c4, c5, c6, c7⟩, hlt1⟩ := HC.out _ hb1
  go_wp2_with fail
  refine (law_few A n c fs _ (hf.ext (hE0.trans hb1)) hn _ (by decide) hsz).mono ?_; rintro e w2 ⟨rfl, hb2⟩
  have h2 := hb1.trans hb2
  clear c0 c1 c2 c3 c4 c5 c6 c7 hlt1
  obtain ⟨⟨c0, c1, c2, c3, c4, c5, c6, c7⟩, hlt1⟩ := HC.out _ h2
  cases hfw : fewS fs
  · go_wp2_with fail
    refine (law_awake _).mono ?_; rintro e w3 ⟨rfl, hb3⟩
    go_wp2_with fail
    go_ret
    exact ⟨rfl, (hE0.trans h2).trans hb3⟩
  · obtain ⟨hn20, hs3⟩ := few_yes hfw
    have hn20 : n ≤ 20 := by have := Hl.out; omega
    have hbs : Bsz 1048576 fs := (bsz_sum fs).mono (by omega)
    clear hfw hn hsz
    go_wp2_with fail
    refine (law_Fields A n c fs _ (hf.ext (hE0.trans h2)) (by omega)).mono ?_; rintro e w3 ⟨A2, k2, rfl, hf2, hk2, hb3, _⟩
    have h3 := h2.trans hb3
    clear c0 c1 c2 c3 c4 c5 c6 c7 hlt1
    go_wp2_with fail
    have EV := Lib.hid (fun w' (h : Ext w3 w') => val_Evaluate m A2 n k2 fs ⟨ex, ht, hm, tw, tt, md⟩ w' (hf2.ext h) (by omega) hbs (by omega) (by omega) (hg.ext ((hE0.trans h3).trans h)))
    have ER := Lib.hid (fun w' (h : Ext w3 w') => ref_Evaluate m A n c fs ⟨ex, ht, hm, tw, tt, md⟩ w' (hf.ext ((hE0.trans h3).trans h)) (by omega) hbs (by omega) (by omega))
    have UV := Lib.hid (fun w' (h : Ext w3 w') => val_UseRange m A2 n k2 fs ⟨ex, ht, hm, tw, tt, md⟩ w' (hf2.ext h) (by omega) hbs (by omega) (by omega) (hg.ext ((hE0.trans h3).trans h)))
    have UR := Lib.hid (fun w' (h : Ext w3 w') => ref_UseRange m A n c fs ⟨ex, ht, hm, tw, tt, md⟩ w' (hf.ext ((hE0.trans h3).trans h)) (by omega) hbs (by omega) (by omega))
    generalize evF m fs ⟨ex, ht, hm, tw, tt, md⟩ = E at *
    generalize urF m fs ⟨ex, ht, hm, tw, tt, md⟩ = U at *
    have hU : (U == U) = true := by simp
    have hEE : (E == E) = true := by simp
    have HC3 := Lib.hid (show ∀ w', Ext w3 w' → (w'.cell? ⟨w.heap.size, 0, none⟩ = some (.string m) ∧ w'.cell? ⟨w.heap.size, 1, none⟩ = some (.slice A n c) ∧ w'.cell? ⟨w.heap.size, 2, none⟩ = some (.bool ex) ∧ w'.cell? ⟨w.heap.size, 3, none⟩ = some (.bool ht) ∧ w'.cell? ⟨w.heap.size, 4, none⟩ = some (.bool hm) ∧ w'.cell? ⟨w.heap.size, 5, none⟩ = some (.bool tw) ∧ w'.cell? ⟨w.heap.size, 6, none⟩ = some (.string tt) ∧ w'.cell? ⟨w.heap.size, 7, none⟩ = some (.int .i64 md)) from fun w' h => (HC.out _ (h3.trans h)).1)
    have HE3 := Lib.hid (hE0.trans h3)
    clear HC hlt0 hn20 hs3 hbs h2 h3 hb1 hb2 hb3 hf hf2 hk2 hg hE0
    have hE := (Ext.refl w3).drew
    refine wp_region_held_drew (S := (fun w' => w'.cell? ⟨w.heap.size, 0, none⟩ = some (.string m) ∧ w'.cell? ⟨w.heap.size, 1, none⟩ = some (.slice A n c) ∧ w'.cell? ⟨w.heap.size, 2, none⟩ = some (.bool ex) ∧ w'.cell? ⟨w.heap.size, 3, none⟩ = some (.bool ht) ∧ w'.cell? ⟨w.heap.size, 4, none⟩ = some (.bool hm) ∧ w'.cell? ⟨w.heap.size, 5, none⟩ = some (.bool tw) ∧ w'.cell? ⟨w.heap.size, 6, none⟩ = some (.string tt) ∧ w'.cell? ⟨w.heap.size, 7, none⟩ = some (.int .i64 md))) (by kernel_rfl) ?_ (fun hHeld => ?_)
    · (try dsimp only); exact HC3.out _ hE
    refine wpAnyH_take (i := 0) (oi := { dst := some 16, op := _, type := _, pos := _, after := _, guard := _ }) (v := ?_) rfl (by kernel_rfl) (by kernel_rfl) (by kernel_rfl) (fun _ _ _ h => h) (Or.inl ⟨by rfl, ?_⟩) (by assumption) ?_
    rotate_left
    · (intro w hSw; (try dsimp only at hSw); go_simp; (try with_reducible rfl))
    (try simp only [Act.put, List.setIfInBounds_toArray, List.set_cons_zero, List.set_cons_succ])
    refine wpAnyH_take (i := 1) (oi := { dst := some 17, op := _, type := _, pos := _, after := _, guard := _ }) (v := ?_) rfl (by kernel_rfl) (by kernel_rfl) (by kernel_rfl) (fun _ _ _ h => h) (Or.inl ⟨by rfl, ?_⟩) (by assumption) ?_
    rotate_left
    · (intro w hSw; (try dsimp only at hSw); go_simp; (try with_reducible rfl))
    (try simp only [Act.put, List.setIfInBounds_toArray, List.set_cons_zero, List.set_cons_succ])
    refine wpAnyH_take (i := 2) (oi := { dst := some 18, op := _, type := _, pos := _, after := _, guard := _ }) (v := ?_) rfl (by kernel_rfl) (by kernel_rfl) (by kernel_rfl) (fun _ _ _ h => h) (Or.inl ⟨by rfl, ?_⟩) (by assumption) ?_
    rotate_left
    · (intro w hSw; (try dsimp only at hSw); go_simp; (try with_reducible rfl))
    (try simp only [Act.put, List.setIfInBounds_toArray, List.set_cons_zero, List.set_cons_succ])
    refine wpAnyH_take (i := 3) (oi := { dst := some 19, op := _, type := _, pos := _, after := _, guard := _ }) (v := ?_) rfl (by kernel_rfl) (by kernel_rfl) (by kernel_rfl) (fun _ _ _ h => h) (Or.inl ⟨by rfl, ?_⟩) (by assumption) ?_
    rotate_left
    · (intro w hSw; (try dsimp only at hSw); go_simp; (try with_reducible rfl))
    (try simp only [Act.put, List.setIfInBounds_toArray, List.set_cons_zero, List.set_cons_succ])
    refine wpAnyH_take (i := 4) (oi := { dst := some 20, op := _, type := _, pos := _, after := _, guard := _ }) (v := ?_) rfl (by kernel_rfl) (by kernel_rfl) (by kernel_rfl) (fun _ _ _ h => h) (Or.inl ⟨by rfl, ?_⟩) (by assumption) ?_
    rotate_left
    · (intro w hSw; (try dsimp only at hSw); go_simp; (try with_reducible rfl))
    (try simp only [Act.put, List.setIfInBounds_toArray, List.set_cons_zero, List.set_cons_succ])
    refine wpAnyH_take (i := 7) (oi := { dst := some 23, op := _, type := _, pos := _, after := _, guard := _ }) (v := ?_) rfl (by kernel_rfl) (by kernel_rfl) (by kernel_rfl) (fun _ _ _ h => h) (Or.inl ⟨by rfl, ?_⟩) (by assumption) ?_
    rotate_left
    · (intro w hSw; (try dsimp only at hSw); go_simp; (try with_reducible rfl))
    (try simp only [Act.put, List.setIfInBounds_toArray, List.set_cons_zero, List.set_cons_succ])
    refine wpAnyH_take (i := 8) (oi := { dst := some 24, op := _, type := _, pos := _, after := _, guard := _ }) (v := ?_) rfl (by kernel_rfl) (by kernel_rfl) (by kernel_rfl) (fun _ _ _ h => h) (Or.inl ⟨by rfl, ?_⟩) (by assumption) ?_
    rotate_left
    · (intro w hSw; (try dsimp only at hSw); go_simp; (try with_reducible rfl))
    (try simp only [Act.put, List.setIfInBounds_toArray, List.set_cons_zero, List.set_cons_succ])
    refine wpAnyH_take (i := 9) (oi := { dst := some 25, op := _, type := _, pos := _, after := _, guard := _ }) (v := ?_) rfl (by kernel_rfl) (by kernel_rfl) (by kernel_rfl) (fun _ _ _ h => h) (Or.inl ⟨by rfl, ?_⟩) (by assumption) ?_
    rotate_left
    · (intro w hSw; (try dsimp only at hSw); go_simp; (try with_reducible rfl))
    (try simp only [Act.put, List.setIfInBounds_toArray, List.set_cons_zero, List.set_cons_succ])
    refine wpAnyH_take (i := 10) (oi := { dst := some 26, op := _, type := _, pos := _, after := _, guard := _ }) (v := ?_) rfl (by kernel_rfl) (by kernel_rfl) (by kernel_rfl) (fun _ _ _ h => h) (Or.inl ⟨by rfl, ?_⟩) (by assumption) ?_
    rotate_left
    · (intro w hSw; (try dsimp only at hSw); go_simp; (try with_reducible rfl))
    (try simp only [Act.put, List.setIfInBounds_toArray, List.set_cons_zero, List.set_cons_succ])
    refine wpAnyH_take (i := 11) (oi := { dst := some 27, op := _, type := _, pos := _, after := _, guard := _ }) (v := ?_) rfl (by kernel_rfl) (by kernel_rfl) (by kernel_rfl) (fun _ _ _ h => h) (Or.inl ⟨by rfl, ?_⟩) (by assumption) ?_
    rotate_left
    · (intro w hSw; (try dsimp only at hSw); go_simp; (try with_reducible rfl))
    (try simp only [Act.put, List.setIfInBounds_toArray, List.set_cons_zero, List.set_cons_succ])
    refine wpAnyH_take (i := 12) (oi := { dst := some 28, op := _, type := _, pos := _, after := _, guard := _ }) (v := ?_) rfl (by kernel_rfl) (by kernel_rfl) (by kernel_rfl) (fun _ _ _ h => h) (Or.inl ⟨by rfl, ?_⟩) (by assumption) ?_
    rotate_left
    · (intro w hSw; (try dsimp only at hSw); go_simp; (try with_reducible rfl))
    (try simp only [Act.put, List.setIfInBounds_toArray, List.set_cons_zero, List.set_cons_succ])
    refine wpAnyH_ready (rs := [5]) (by kernel_rfl) (by simp) ?_
    refine AllReadyH.cons (o := { dst := some 21, op := _, type := _, pos := _, after := _, guard := _ }) rfl (fun K hK => ?_) AllReadyH.nil
    go_simp
    refine (law_State ⟨ex, ht, hm, tw, tt, md⟩ _).mono ?_; rintro e w4 ⟨rfl, hb4⟩; replace hE := hE.trans hb4; clear hb4
    try go_wp2_with fail
    refine hK.out _ _ ?_ (fun hHeld => ?_)
    · (try dsimp only); exact HC3.out _ hE
    clear hK K
    (try simp only [Act.put, List.setIfInBounds_toArray, List.set_cons_zero, List.set_cons_succ])
    refine wpAnyH_ready (rs := [6]) (by kernel_rfl) (by simp) ?_
    refine AllReadyH.cons (o := { dst := some 22, op := _, type := _, pos := _, after := _, guard := _ }) rfl (fun K hK => ?_) AllReadyH.nil
    go_simp
    refine (EV.out _ hE).mono ?_; rintro e w4 ⟨rfl, hb4⟩; replace hE := hE.trans hb4; clear hb4
    try go_wp2_with fail
    refine hK.out _ _ ?_ (fun hHeld => ?_)
    · (try dsimp only); exact HC3.out _ hE
    clear hK K
    (try simp only [Act.put, List.setIfInBounds_toArray, List.set_cons_zero, List.set_cons_succ])
    refine wpAnyH_ready (rs := [13]) (by kernel_rfl) (by simp) ?_
    refine AllReadyH.cons (o := { dst := some 29, op := _, type := _, pos := _, after := _, guard := _ }) rfl (fun K hK => ?_) AllReadyH.nil
    go_simp
    refine (ER.out _ hE).mono ?_; rintro e w4 ⟨rfl, hb4⟩; replace hE := hE.trans hb4; clear hb4
    try go_wp2_with fail
    refine hK.out _ _ ?_ (fun hHeld => ?_)
    · (try dsimp only); exact HC3.out _ hE
    clear hK K
    (try simp only [Act.put, List.setIfInBounds_toArray, List.set_cons_zero, List.set_cons_succ])
    refine wpAnyH_take (i := 14) (oi := { dst := some 30, op := _, type := _, pos := _, after := _, guard := _ }) (v := ?_) rfl (by kernel_rfl) (by kernel_rfl) (by kernel_rfl) (fun _ _ _ h => h) (Or.inl ⟨by rfl, ?_⟩) (by assumption) ?_
    rotate_left
    · (intro w hSw; (try dsimp only at hSw); go_simp; (try with_reducible rfl))
    (try simp only [Act.put, List.setIfInBounds_toArray, List.set_cons_zero, List.set_cons_succ])
    refine wpAnyH_take (i := 15) (oi := { dst := some 31, op := _, type := _, pos := _, after := _, guard := _ }) (v := ?_) rfl (by kernel_rfl) (by kernel_rfl) (by kernel_rfl) (fun _ _ _ h => h) (Or.inl ⟨by rfl, ?_⟩) (by assumption) ?_
    rotate_left
    · (intro w hSw; (try dsimp only at hSw); go_simp; (try with_reducible rfl))
    (try simp only [Act.put, List.setIfInBounds_toArray, List.set_cons_zero, List.set_cons_succ])
    refine wpAnyH_take (i := 16) (oi := { dst := some 32, op := _, type := _, pos := _, after := _, guard := _ }) (v := ?_) rfl (by kernel_rfl) (by kernel_rfl) (by kernel_rfl) (fun _ _ _ h => h) (Or.inl ⟨by rfl, ?_⟩) (by assumption) ?_
    rotate_left
    · (intro w hSw; (try dsimp only at hSw); go_simp; (try with_reducible rfl))
    (try simp only [Act.put, List.setIfInBounds_toArray, List.set_cons_zero, List.set_cons_succ])
    refine wpAnyH_take (i := 17) (oi := { dst := some 33, op := _, type := _, pos := _, after := _, guard := _ }) (v := ?_) rfl (by kernel_rfl) (by kernel_rfl) (by kernel_rfl) (fun _ _ _ h => h) (Or.inl ⟨by rfl, ?_⟩) (by assumption) ?_
    rotate_left
    · (intro w hSw; (try dsimp only at hSw); go_simp; (try with_reducible rfl))
    (try simp only [Act.put, List.setIfInBounds_toArray, List.set_cons_zero, List.set_cons_succ])
    refine wpAnyH_take (i := 18) (oi := { dst := some 34, op := _, type := _, pos := _, after := _, guard := _ }) (v := ?_) rfl (by kernel_rfl) (by kernel_rfl) (by kernel_rfl) (fun _ _ _ h => h) (Or.inl ⟨by rfl, ?_⟩) (by assumption) ?_
    rotate_left
    · (intro w hSw; (try dsimp only at hSw); go_simp; (try with_reducible rfl))
    (try simp only [Act.put, List.setIfInBounds_toArray, List.set_cons_zero, List.set_cons_succ])
    refine wpAnyH_take (i := 19) (oi := { dst := some 35, op := _, type := _, pos := _, after := _, guard := _ }) (v := ?_) rfl (by kernel_rfl) (by kernel_rfl) (by kernel_rfl) (fun _ _ _ h => h) (Or.inl ⟨by rfl, ?_⟩) (by assumption) ?_
    rotate_left
    · (intro w hSw; (try dsimp only at hSw); go_simp; (try with_reducible rfl))
    (try simp only [Act.put, List.setIfInBounds_toArray, List.set_cons_zero, List.set_cons_succ])
    refine wpAnyH_take (i := 20) (oi := { dst := some 36, op := _, type := _, pos := _, after := _, guard := _ }) (v := ?_) rfl (by kernel_rfl) (by kernel_rfl) (by kernel_rfl) (fun _ _ _ h => h) (Or.inl ⟨by rfl, ?_⟩) (by assumption) ?_
    rotate_left
    · (intro w hSw; (try dsimp only at hSw); go_simp; (try with_reducible rfl))
    (try simp only [Act.put, List.setIfInBounds_toArray, List.set_cons_zero, List.set_cons_succ])
    refine wpAnyH_take (i := 23) (oi := { dst := some 39, op := _, type := _, pos := _, after := _, guard := _ }) (v := ?_) rfl (by kernel_rfl) (by kernel_rfl) (by kernel_rfl) (fun _ _ _ h => h) (Or.inl ⟨by rfl, ?_⟩) (by assumption) ?_
    rotate_left
    · (intro w hSw; (try dsimp only at hSw); go_simp; (try with_reducible rfl))
    (try simp only [Act.put, List.setIfInBounds_toArray, List.set_cons_zero, List.set_cons_succ])
    refine wpAnyH_take (i := 24) (oi := { dst := some 40, op := _, type := _, pos := _, after := _, guard := _ }) (v := ?_) rfl (by kernel_rfl) (by kernel_rfl) (by kernel_rfl) (fun _ _ _ h => h) (Or.inl ⟨by rfl, ?_⟩) (by assumption) ?_
    rotate_left
    · (intro w hSw; (try dsimp only at hSw); go_simp; (try with_reducible rfl))
    (try simp only [Act.put, List.setIfInBounds_toArray, List.set_cons_zero, List.set_cons_succ])
    refine wpAnyH_take (i := 25) (oi := { dst := some 41, op := _, type := _, pos := _, after := _, guard := _ }) (v := ?_) rfl (by kernel_rfl) (by kernel_rfl) (by kernel_rfl) (fun _ _ _ h => h) (Or.inl ⟨by rfl, ?_⟩) (by assumption) ?_
    rotate_left
    · (intro w hSw; (try dsimp only at hSw); go_simp; (try with_reducible rfl))
    (try simp only [Act.put, List.setIfInBounds_toArray, List.set_cons_zero, List.set_cons_succ])
    refine wpAnyH_take (i := 26) (oi := { dst := some 42, op := _, type := _, pos := _, after := _, guard := _ }) (v := ?_) rfl (by kernel_rfl) (by kernel_rfl) (by kernel_rfl) (fun _ _ _ h => h) (Or.inl ⟨by rfl, ?_⟩) (by assumption) ?_
    rotate_left
    · (intro w hSw; (try dsimp only at hSw); go_simp; (try with_reducible rfl))
    (try simp only [Act.put, List.setIfInBounds_toArray, List.set_cons_zero, List.set_cons_succ])
    refine wpAnyH_take (i := 27) (oi := { dst := some 43, op := _, type := _, pos := _, after := _, guard := _ }) (v := ?_) rfl (by kernel_rfl) (by kernel_rfl) (by kernel_rfl) (fun _ _ _ h => h) (Or.inl ⟨by rfl, ?_⟩) (by assumption) ?_
    rotate_left
    · (intro w hSw; (try dsimp only at hSw); go_simp; (try with_reducible rfl))
    (try simp only [Act.put, List.setIfInBounds_toArray, List.set_cons_zero, List.set_cons_succ])
    refine wpAnyH_take (i := 28) (oi := { dst := some 44, op := _, type := _, pos := _, after := _, guard := _ }) (v := ?_) rfl (by kernel_rfl) (by kernel_rfl) (by kernel_rfl) (fun _ _ _ h => h) (Or.inl ⟨by rfl, ?_⟩) (by assumption) ?_
    rotate_left
    · (intro w hSw; (try dsimp only at hSw); go_simp; (try with_reducible rfl))
    (try simp only [Act.put, List.setIfInBounds_toArray, List.set_cons_zero, List.set_cons_succ])
    refine wpAnyH_ready (rs := [21]) (by kernel_rfl) (by simp) ?_
    refine AllReadyH.cons (o := { dst := some 37, op := _, type := _, pos := _, after := _, guard := _ }) rfl (fun K hK => ?_) AllReadyH.nil
    go_simp
    refine (law_State ⟨ex, ht, hm, tw, tt, md⟩ _).mono ?_; rintro e w4 ⟨rfl, hb4⟩; replace hE := hE.trans hb4; clear hb4
    try go_wp2_with fail
    refine hK.out _ _ ?_ (fun hHeld => ?_)
    · (try dsimp only); exact HC3.out _ hE
    clear hK K
    (try simp only [Act.put, List.setIfInBounds_toArray, List.set_cons_zero, List.set_cons_succ])
    refine wpAnyH_ready (rs := [22]) (by kernel_rfl) (by simp) ?_
    refine AllReadyH.cons (o := { dst := some 38, op := _, type := _, pos := _, after := _, guard := _ }) rfl (fun K hK => ?_) AllReadyH.nil
    go_simp
    refine (UV.out _ hE).mono ?_; rintro e w4 ⟨rfl, hb4⟩; replace hE := hE.trans hb4; clear hb4
    try go_wp2_with fail
    refine hK.out _ _ ?_ (fun hHeld => ?_)
    · (try dsimp only); exact HC3.out _ hE
    clear hK K
    (try simp only [Act.put, List.setIfInBounds_toArray, List.set_cons_zero, List.set_cons_succ])
    refine wpAnyH_ready (rs := [29]) (by kernel_rfl) (by simp) ?_
    refine AllReadyH.cons (o := { dst := some 45, op := _, type := _, pos := _, after := _, guard := _ }) rfl (fun K hK => ?_) AllReadyH.nil
    go_simp
    refine (UR.out _ hE).mono ?_; rintro e w4 ⟨rfl, hb4⟩; replace hE := hE.trans hb4; clear hb4
    try go_wp2_with fail
    refine hK.out _ _ ?_ (fun hHeld => ?_)
    · (try dsimp only); exact HC3.out _ hE
    clear hK K
    (try simp only [Act.put, List.setIfInBounds_toArray, List.set_cons_zero, List.set_cons_succ])
    refine wpAnyH_take (i := 30) (oi := { dst := some 46, op := _, type := _, pos := _, after := _, guard := _ }) (v := ?_) rfl (by kernel_rfl) (by kernel_rfl) (by kernel_rfl) (fun _ _ _ h => h) (Or.inl ⟨by rfl, ?_⟩) (by assumption) ?_
    rotate_left
    · (intro w hSw; (try dsimp only at hSw); go_simp; (try with_reducible rfl))
    (try simp only [Act.put, List.setIfInBounds_toArray, List.set_cons_zero, List.set_cons_succ])
    refine wpAnyH_take (i := 31) (oi := { dst := some 47, op := _, type := _, pos := _, after := _, guard := _ }) (v := ?_) rfl (by kernel_rfl) (by kernel_rfl) (by kernel_rfl) (fun _ _ _ h => h) (Or.inl ⟨by rfl, ?_⟩) (by assumption) ?_
    rotate_left
    · (intro w hSw; (try dsimp only at hSw); go_simp; (try with_reducible rfl))
    (try simp only [Act.put, List.setIfInBounds_toArray, List.set_cons_zero, List.set_cons_succ])
    refine wpAnyH_take (i := 32) (oi := { dst := some 2, op := _, type := _, pos := _, after := _, guard := _ }) (v := ?_) rfl (by kernel_rfl) (by kernel_rfl) (by kernel_rfl) (fun _ _ _ h => h) (Or.inl ⟨by rfl, ?_⟩) (by assumption) ?_
    rotate_left
    · (intro w hSw; (try dsimp only at hSw); go_simp; (try with_reducible rfl))
    (try simp only [Act.put, List.setIfInBounds_toArray, List.set_cons_zero, List.set_cons_succ])
    refine wpAnyH_done (by kernel_rfl) ?_ _
    go_wp2_with fail
    go_ret
    exact ⟨rfl, HE3.out.trans hE⟩

set_option maxHeartbeats 16000000 in
set_option maxRecDepth 100000 in
theorem precedence_walk (m : ByteArray) (A : Option Addr) (n c : Nat) (fs : List Fd) (st : St) (tags date : ByteArray) (w : World) (hf : RdF w A n fs) (hn : n ≤ 9223372036854775807) (hsz : Bsz 140737488351232 fs) (hg : GlH w) (ht1 : tags.size ≤ 140737488351232) (hd1 : date.size ≤ 140737488351232) :
    Calls Tryd.prog 8 #[.agg #[.string m, .slice A n c, .bool st.ex, .bool st.ht, .bool st.hm, .bool st.tw, .string st.tt, .int .i64 st.md], .string tags, .string date] w fun e w' => e = .returned (.bool true) ∧ Ext w w' := by
  have hl := hf.lenF
  have Hl := Lib.hid hl; clear hl
  obtain ⟨ex, ht, hm, tw, tt, md⟩ := st
  have hE0 := (Ext.refl w).alloc (.cells #[.string m, .slice A n c, .bool ex, .bool ht, .bool hm, .bool tw, .string tt, .int .i64 md] 54)
  have hB := Blk.new w 54 #[.string m, .slice A n c, .bool ex, .bool ht, .bool hm, .bool tw, .string tt, .int .i64 md]
  go_enter Tryd.func8, Tryd.ntmps8
  go_wp2_with fail
  generalize w.alloc (.cells #[.string m, .slice A n c, .bool ex, .bool ht, .bool hm, .bool tw, .string tt, .int .i64 md] 54) = W0 at *
  have HC := Lib.hid (show ∀ w', Ext W0 w' → (w'.cell? ⟨w.heap.size, 0, none⟩ = some (.string m) ∧ w'.cell? ⟨w.heap.size, 1, none⟩ = some (.slice A n c) ∧ w'.cell? ⟨w.heap.size, 2, none⟩ = some (.bool ex) ∧ w'.cell? ⟨w.heap.size, 3, none⟩ = some (.bool ht) ∧ w'.cell? ⟨w.heap.size, 4, none⟩ = some (.bool hm) ∧ w'.cell? ⟨w.heap.size, 5, none⟩ = some (.bool tw) ∧ w'.cell? ⟨w.heap.size, 6, none⟩ = some (.string tt) ∧ w'.cell? ⟨w.heap.size, 7, none⟩ = some (.int .i64 md)) ∧ w.heap.size < w'.heap.size from fun w' h => ⟨⟨(hB.ext h).cell 0, (hB.ext h).cell 1, (hB.ext h).cell 2, (hB.ext h).cell 3, (hB.ext h).cell 4, (hB.ext h).cell 5, (hB.ext h).cell 6, (hB.ext h).cell 7⟩, (hB.ext h).lt⟩)
  have hlt0 := hB.lt
  clear hB
  refine (law_awake _).mono ?_; rintro e w1 ⟨rfl, hb1⟩
  obtain ⟨⟨c0, c1, c2, c3, c4, c5, c6, c7⟩, hlt1⟩ := HC.out _ hb1
  go_wp2_with fail
  refine (law_few A n c fs _ (hf.ext (hE0.trans hb1)) hn _ (by decide) hsz).mono ?_; rintro e w2 ⟨rfl, hb2⟩
  have h2 := hb1.trans hb2
  clear c0 c1 c2 c3 c4 c5 c6 c7 hlt1
  have HE2 := Lib.hid (hE0.trans h2)
  cases hfw : fewS fs
  · go_wp2_with fail
    refine (law_awake _).mono ?_; rintro e w3 ⟨rfl, hb3⟩
    go_wp2_with fail
    go_ret
    exact ⟨rfl, HE2.out.trans hb3⟩
  · by_cases h500 : tags.size + date.size ≤ 500
    rotate_left
    · go_wp2_with fail
      refine (law_awake _).mono ?_; rintro e w3 ⟨rfl, hb3⟩
      go_wp2_with fail
      go_ret
      exact ⟨rfl, HE2.out.trans hb3⟩
    obtain ⟨hn20, hs3⟩ := few_yes hfw
    have Hn20 := Lib.hid (show n ≤ 20 by have := Hl.out; omega)
    have Hs3 := Lib.hid hs3
    have hn20 : n ≤ 20 := Hn20.out
    have Hbs := Lib.hid ((bsz_sum fs).mono (show sumF fs ≤ 4611686018427387904 by omega))
    have HF := Lib.hid (fun w' (h : Ext w2 w') => hf.ext (HE2.out.trans h))
    have HG := Lib.hid (fun w' (h : Ext w2 w') => hg.ext (HE2.out.trans h))
    have HC3 := Lib.hid (show ∀ w', Ext w2 w' → (w'.cell? ⟨w.heap.size, 0, none⟩ = some (.string m) ∧ w'.cell? ⟨w.heap.size, 1, none⟩ = some (.slice A n c) ∧ w'.cell? ⟨w.heap.size, 2, none⟩ = some (.bool ex) ∧ w'.cell? ⟨w.heap.size, 3, none⟩ = some (.bool ht) ∧ w'.cell? ⟨w.heap.size, 4, none⟩ = some (.bool hm) ∧ w'.cell? ⟨w.heap.size, 5, none⟩ = some (.bool tw) ∧ w'.cell? ⟨w.heap.size, 6, none⟩ = some (.string tt) ∧ w'.cell? ⟨w.heap.size, 7, none⟩ = some (.int .i64 md)) ∧ w.heap.size < w'.heap.size from fun w' h => HC.out _ (h2.trans h))
    clear HC hlt0 hs3 h2 hb1 hb2 hf hg hE0 hsz hfw hn
    have hlt2 := (HC3.out _ (Ext.refl w2)).2
    go_upto_region 3 with fail
    go_cut [7, 8] (fun x7 x8 wx => ∃ A2 k2 gS, x7 = .slice A2 n k2 ∧ x8 = .pointer (some ⟨gS, 0, none⟩) ∧ RdF wx A2 n fs ∧ n ≤ k2 ∧ Blk wx gS 61 #[.bool ex, .bool ht, .bool hm, .bool tw, .string tt, .int .i64 md] ∧ Ext w2 wx)
    case first =>
      have hst : stArr ⟨ex, ht, hm, tw, tt, md⟩ = #[.bool ex, .bool ht, .bool hm, .bool tw, .string tt, .int .i64 md] := rfl
      have hE := (Ext.refl w2).drew
      go_wp2_with fail
      refine wp_region_held_drew (S := (fun w' => w'.cell? ⟨w.heap.size, 0, none⟩ = some (.string m) ∧ w'.cell? ⟨w.heap.size, 1, none⟩ = some (.slice A n c) ∧ w'.cell? ⟨w.heap.size, 2, none⟩ = some (.bool ex) ∧ w'.cell? ⟨w.heap.size, 3, none⟩ = some (.bool ht) ∧ w'.cell? ⟨w.heap.size, 4, none⟩ = some (.bool hm) ∧ w'.cell? ⟨w.heap.size, 5, none⟩ = some (.bool tw) ∧ w'.cell? ⟨w.heap.size, 6, none⟩ = some (.string tt) ∧ w'.cell? ⟨w.heap.size, 7, none⟩ = some (.int .i64 md))) (by kernel_rfl) ?_ (fun hHeld => ?_)
      · (try dsimp only); exact (HC3.out _ hE).1
      refine wpAnyH_take (i := 0) (oi := { dst := some 30, op := _, type := _, pos := _, after := _, guard := _ }) (v := ?_) rfl (by kernel_rfl) (by kernel_rfl) (by kernel_rfl) (fun _ _ _ h => h) (Or.inl ⟨by rfl, ?_⟩) (by assumption) ?_
      rotate_left
      · (intro w hSw; (try dsimp only at hSw); go_simp; (try with_reducible rfl))
      (try simp only [Act.put, List.setIfInBounds_toArray, List.set_cons_zero, List.set_cons_succ])
      refine wpAnyH_take (i := 1) (oi := { dst := some 31, op := _, type := _, pos := _, after := _, guard := _ }) (v := ?_) rfl (by kernel_rfl) (by kernel_rfl) (by kernel_rfl) (fun _ _ _ h => h) (Or.inl ⟨by rfl, ?_⟩) (by assumption) ?_
      rotate_left
      · (intro w hSw; (try dsimp only at hSw); go_simp; (try with_reducible rfl))
      (try simp only [Act.put, List.setIfInBounds_toArray, List.set_cons_zero, List.set_cons_succ])
      refine wpAnyH_take (i := 3) (oi := { dst := some 33, op := _, type := _, pos := _, after := _, guard := _ }) (v := ?_) rfl (by kernel_rfl) (by kernel_rfl) (by kernel_rfl) (fun _ _ _ h => h) (Or.inl ⟨by rfl, ?_⟩) (by assumption) ?_
      rotate_left
      · (intro w hSw; (try dsimp only at hSw); go_simp; (try with_reducible rfl))
      (try simp only [Act.put, List.setIfInBounds_toArray, List.set_cons_zero, List.set_cons_succ])
      refine wpAnyH_take (i := 4) (oi := { dst := some 34, op := _, type := _, pos := _, after := _, guard := _ }) (v := ?_) rfl (by kernel_rfl) (by kernel_rfl) (by kernel_rfl) (fun _ _ _ h => h) (Or.inl ⟨by rfl, ?_⟩) (by assumption) ?_
      rotate_left
      · (intro w hSw; (try dsimp only at hSw); go_simp; (try with_reducible rfl))
      (try simp only [Act.put, List.setIfInBounds_toArray, List.set_cons_zero, List.set_cons_succ])
      refine wpAnyH_ready (rs := [2, 6]) (by kernel_rfl) (by simp) ?_
      refine AllReadyH.cons (o := { dst := some 32, op := _, type := _, pos := _, after := _, guard := _ }) rfl (fun K hK => ?_) (AllReadyH.cons (o := { dst := some 8, op := _, type := _, pos := _, after := _, guard := _ }) rfl (fun K hK => ?_) AllReadyH.nil)
      · go_simp
        refine (law_Fields A n c fs _ (HF.out _ hE) (by omega)).mono ?_; rintro e wf ⟨A2, k2, rfl, hf2, hk2, hbf, hown⟩; have hne2 := own_at hown; have hsf := hE.size; (try simp only [World.size_alloc] at hsf); replace hE := hE.trans hbf; have hf2 := Lib.hid hf2; clear hown
        try go_wp2_with fail
        refine hK.out _ _ ?_ (fun hHeld => ?_)
        · (try dsimp only); exact (HC3.out _ hE).1
        clear hK K
        (try simp only [Act.put, List.setIfInBounds_toArray, List.set_cons_zero, List.set_cons_succ])
        refine wpAnyH_ready (rs := [5, 6]) (by kernel_rfl) (by simp) ?_
        refine AllReadyH.cons (o := { dst := some 35, op := _, type := _, pos := _, after := _, guard := _ }) rfl (fun K hK => ?_) (AllReadyH.cons (o := { dst := some 8, op := _, type := _, pos := _, after := _, guard := _ }) rfl (fun K hK => ?_) AllReadyH.nil)
        · go_simp
          refine (law_State ⟨ex, ht, hm, tw, tt, md⟩ _).mono ?_; rintro e wg ⟨rfl, hbg⟩; rw [hst]; have hsg := hbg.size; (try simp only [World.size_alloc] at hsg); replace hE := hE.trans hbg; replace hf2 := Lib.hid (hf2.out.ext hbg);
          try go_wp2_with fail
          refine hK.out _ _ ?_ (fun hHeld => ?_)
          · (try dsimp only); exact (HC3.out _ hE).1
          clear hK K
          (try simp only [Act.put, List.setIfInBounds_toArray, List.set_cons_zero, List.set_cons_succ])
          refine wpAnyH_ready (rs := [6]) (by kernel_rfl) (by simp) ?_
          refine AllReadyH.cons (o := { dst := some 8, op := _, type := _, pos := _, after := _, guard := _ }) rfl (fun K hK => ?_) AllReadyH.nil
          go_simp
          have hEw := Lib.hid hE; have hgs : w2.heap.size ≤ wg.heap.size := hE.size; have HZ := Lib.hid (show Blk (wg.alloc (.cells #[.bool false, .bool false, .bool false, .bool false, .string ⟨#[]⟩, .int .i64 0] 61)) wg.heap.size 61 #[.bool false, .bool false, .bool false, .bool false, .string ⟨#[]⟩, .int .i64 0] from Blk.new wg 61 #[.bool false, .bool false, .bool false, .bool false, .string ⟨#[]⟩, .int .i64 0]); have hE := hE.alloc (.cells #[.bool false, .bool false, .bool false, .bool false, .string ⟨#[]⟩, .int .i64 0] 61); have hf2w := hf2; replace hf2 := Lib.hid (hf2.out.alloc (.cells #[.bool false, .bool false, .bool false, .bool false, .string ⟨#[]⟩, .int .i64 0] 61))
          try go_wp2_with fail
          refine hK.out _ _ ?_ (fun hHeld => ?_)
          · (try dsimp only); exact (HC3.out _ hE).1
          clear hK K
          (try simp only [Act.put, List.setIfInBounds_toArray, List.set_cons_zero, List.set_cons_succ])
          refine wpAnyH_take (i := 7) (oi := { dst := some 7, op := _, type := _, pos := _, after := _, guard := _ }) (v := ?_) rfl (by kernel_rfl) (by kernel_rfl) (by kernel_rfl) (fun _ _ _ h => h) (Or.inl ⟨by rfl, ?_⟩) (by assumption) ?_
          rotate_left
          · (intro w hSw; (try dsimp only at hSw); go_simp; (try with_reducible rfl))
          (try simp only [Act.put, List.setIfInBounds_toArray, List.set_cons_zero, List.set_cons_succ])
          refine wpAnyH_ready (rs := [8]) (by kernel_rfl) (by simp) ?_
          refine AllReadyH.cons (o := { dst := none, op := _, type := _, pos := _, after := _, guard := _ }) rfl (fun K hK => ?_) AllReadyH.nil
          have z0 := HZ.out.cell 0; have z1 := HZ.out.cell 1; have z2 := HZ.out.cell 2; have z3 := HZ.out.cell 3; have z4 := HZ.out.cell 4; have z5 := HZ.out.cell 5; have zf := HZ.out.frozen
          go_simp
          try go_wp2_with fail
          refine hK.out _ _ ?_ (fun hHeld => ?_)
          · (try dsimp only); exact (HC3.out _ (hEw.out.alloc (.cells #[.bool ex, .bool ht, .bool hm, .bool tw, .string tt, .int .i64 md] 61))).1
          clear hK K
          (try simp only [Act.put, List.setIfInBounds_toArray, List.set_cons_zero, List.set_cons_succ])
          refine wpAnyH_done (by kernel_rfl) ?_ _
          go_wp2_with fail
          go_meet
          exact ⟨A2, k2, wg.heap.size, rfl, rfl, hf2w.out.alloc (.cells #[.bool ex, .bool ht, .bool hm, .bool tw, .string tt, .int .i64 md] 61), hk2, Blk.new wg 61 #[.bool ex, .bool ht, .bool hm, .bool tw, .string tt, .int .i64 md], hEw.out.alloc (.cells #[.bool ex, .bool ht, .bool hm, .bool tw, .string tt, .int .i64 md] 61)⟩
        · go_simp
          have hEw := Lib.hid hE; have hgs : w2.heap.size ≤ wf.heap.size := hE.size; have HZ := Lib.hid (show Blk (wf.alloc (.cells #[.bool false, .bool false, .bool false, .bool false, .string ⟨#[]⟩, .int .i64 0] 61)) wf.heap.size 61 #[.bool false, .bool false, .bool false, .bool false, .string ⟨#[]⟩, .int .i64 0] from Blk.new wf 61 #[.bool false, .bool false, .bool false, .bool false, .string ⟨#[]⟩, .int .i64 0]); have hE := hE.alloc (.cells #[.bool false, .bool false, .bool false, .bool false, .string ⟨#[]⟩, .int .i64 0] 61); have hf2w := hf2; replace hf2 := Lib.hid (hf2.out.alloc (.cells #[.bool false, .bool false, .bool false, .bool false, .string ⟨#[]⟩, .int .i64 0] 61))
          try go_wp2_with fail
          refine hK.out _ _ ?_ (fun hHeld => ?_)
          · (try dsimp only); exact (HC3.out _ hE).1
          clear hK K
          (try simp only [Act.put, List.setIfInBounds_toArray, List.set_cons_zero, List.set_cons_succ])
          refine wpAnyH_ready (rs := [5]) (by kernel_rfl) (by simp) ?_
          refine AllReadyH.cons (o := { dst := some 35, op := _, type := _, pos := _, after := _, guard := _ }) rfl (fun K hK => ?_) AllReadyH.nil
          go_simp
          refine (law_State ⟨ex, ht, hm, tw, tt, md⟩ _).mono ?_; rintro e wg ⟨rfl, hbg⟩; rw [hst]; have hsg := hbg.size; (try simp only [World.size_alloc] at hsg); replace hE := hE.trans hbg; replace hf2 := Lib.hid (hf2.out.ext hbg); replace HZ := Lib.hid (HZ.out.ext hbg);
          try go_wp2_with fail
          refine hK.out _ _ ?_ (fun hHeld => ?_)
          · (try dsimp only); exact (HC3.out _ hE).1
          clear hK K
          (try simp only [Act.put, List.setIfInBounds_toArray, List.set_cons_zero, List.set_cons_succ])
          refine wpAnyH_take (i := 7) (oi := { dst := some 7, op := _, type := _, pos := _, after := _, guard := _ }) (v := ?_) rfl (by kernel_rfl) (by kernel_rfl) (by kernel_rfl) (fun _ _ _ h => h) (Or.inl ⟨by rfl, ?_⟩) (by assumption) ?_
          rotate_left
          · (intro w hSw; (try dsimp only at hSw); go_simp; (try with_reducible rfl))
          (try simp only [Act.put, List.setIfInBounds_toArray, List.set_cons_zero, List.set_cons_succ])
          refine wpAnyH_ready (rs := [8]) (by kernel_rfl) (by simp) ?_
          refine AllReadyH.cons (o := { dst := none, op := _, type := _, pos := _, after := _, guard := _ }) rfl (fun K hK => ?_) AllReadyH.nil
          have z0 := HZ.out.cell 0; have z1 := HZ.out.cell 1; have z2 := HZ.out.cell 2; have z3 := HZ.out.cell 3; have z4 := HZ.out.cell 4; have z5 := HZ.out.cell 5; have zf := HZ.out.frozen
          go_simp
          try go_wp2_with fail
          refine hK.out _ _ ?_ (fun hHeld => ?_)
          · (try dsimp only); (have hne : w.heap.size ≠ wf.heap.size := by omega); (have hX := (((((((ExtB.refl wf.heap.size wg).set_ 0 (.bool ex)).set_ 1 (.bool ht)).set_ 2 (.bool hm)).set_ 3 (.bool tw)).set_ 4 (.string tt)).set_ 5 (.int .i64 md))); (obtain ⟨⟨c0, c1, c2, c3, c4, c5, c6, c7⟩, _⟩ := HC3.out _ hE); (have hq : some w.heap.size ≠ some wf.heap.size := fun e => hne (by injection e)); exact ⟨World.grownBy.cell hX c0 hq, World.grownBy.cell hX c1 hq, World.grownBy.cell hX c2 hq, World.grownBy.cell hX c3 hq, World.grownBy.cell hX c4 hq, World.grownBy.cell hX c5 hq, World.grownBy.cell hX c6 hq, World.grownBy.cell hX c7 hq⟩
          clear hK K
          (try simp only [Act.put, List.setIfInBounds_toArray, List.set_cons_zero, List.set_cons_succ])
          refine wpAnyH_done (by kernel_rfl) ?_ _
          have hG := (((((((ExtB.refl wf.heap.size wg).set_ 0 (.bool ex)).set_ 1 (.bool ht)).set_ 2 (.bool hm)).set_ 3 (.bool tw)).set_ 4 (.string tt)).set_ 5 (.int .i64 md))
          have hY := (((((HZ.out.set_ 0 (.bool ex)).set_ 1 (.bool ht)).set_ 2 (.bool hm)).set_ 3 (.bool tw)).set_ 4 (.string tt)).set_ 5 (.int .i64 md)
          go_wp2_with fail
          go_meet
          exact ⟨A2, k2, wf.heap.size, rfl, rfl, Rd.growB hf2.out hG (fun a ha => by have := hne2 a ha; omega), hk2, hY, hE.growB hG hgs⟩
      · go_simp
        have hEw := Lib.hid hE; have hgs : w2.heap.size ≤ w2.heap.size := hE.size; have HZ := Lib.hid (show Blk (w2.drew.alloc (.cells #[.bool false, .bool false, .bool false, .bool false, .string ⟨#[]⟩, .int .i64 0] 61)) w2.heap.size 61 #[.bool false, .bool false, .bool false, .bool false, .string ⟨#[]⟩, .int .i64 0] from Blk.new w2.drew 61 #[.bool false, .bool false, .bool false, .bool false, .string ⟨#[]⟩, .int .i64 0]); have hE := hE.alloc (.cells #[.bool false, .bool false, .bool false, .bool false, .string ⟨#[]⟩, .int .i64 0] 61)
        try go_wp2_with fail
        refine hK.out _ _ ?_ (fun hHeld => ?_)
        · (try dsimp only); exact (HC3.out _ hE).1
        clear hK K
        (try simp only [Act.put, List.setIfInBounds_toArray, List.set_cons_zero, List.set_cons_succ])
        refine wpAnyH_ready (rs := [2]) (by kernel_rfl) (by simp) ?_
        refine AllReadyH.cons (o := { dst := some 32, op := _, type := _, pos := _, after := _, guard := _ }) rfl (fun K hK => ?_) AllReadyH.nil
        go_simp
        refine (law_Fields A n c fs _ (HF.out _ hE) (by omega)).mono ?_; rintro e wf ⟨A2, k2, rfl, hf2, hk2, hbf, hown⟩; replace HZ := Lib.hid (HZ.out.ext hbf); have hne2 : ∀ a, A2 = some a → w2.heap.size + 1 ≤ a.block ∧ a.block < wf.heap.size := fun a ha => (by have h := own_at hown a ha; rw [World.size_alloc] at h; exact h); have hsf := hE.size; (try simp only [World.size_alloc] at hsf); replace hE := hE.trans hbf; have hf2 := Lib.hid hf2; clear hown
        try go_wp2_with fail
        refine hK.out _ _ ?_ (fun hHeld => ?_)
        · (try dsimp only); exact (HC3.out _ hE).1
        clear hK K
        (try simp only [Act.put, List.setIfInBounds_toArray, List.set_cons_zero, List.set_cons_succ])
        refine wpAnyH_ready (rs := [5]) (by kernel_rfl) (by simp) ?_
        refine AllReadyH.cons (o := { dst := some 35, op := _, type := _, pos := _, after := _, guard := _ }) rfl (fun K hK => ?_) AllReadyH.nil
        go_simp
        refine (law_State ⟨ex, ht, hm, tw, tt, md⟩ _).mono ?_; rintro e wg ⟨rfl, hbg⟩; rw [hst]; have hsg := hbg.size; (try simp only [World.size_alloc] at hsg); replace hE := hE.trans hbg; replace hf2 := Lib.hid (hf2.out.ext hbg); replace HZ := Lib.hid (HZ.out.ext hbg);
        try go_wp2_with fail
        refine hK.out _ _ ?_ (fun hHeld => ?_)
        · (try dsimp only); exact (HC3.out _ hE).1
        clear hK K
        (try simp only [Act.put, List.setIfInBounds_toArray, List.set_cons_zero, List.set_cons_succ])
        refine wpAnyH_take (i := 7) (oi := { dst := some 7, op := _, type := _, pos := _, after := _, guard := _ }) (v := ?_) rfl (by kernel_rfl) (by kernel_rfl) (by kernel_rfl) (fun _ _ _ h => h) (Or.inl ⟨by rfl, ?_⟩) (by assumption) ?_
        rotate_left
        · (intro w hSw; (try dsimp only at hSw); go_simp; (try with_reducible rfl))
        (try simp only [Act.put, List.setIfInBounds_toArray, List.set_cons_zero, List.set_cons_succ])
        refine wpAnyH_ready (rs := [8]) (by kernel_rfl) (by simp) ?_
        refine AllReadyH.cons (o := { dst := none, op := _, type := _, pos := _, after := _, guard := _ }) rfl (fun K hK => ?_) AllReadyH.nil
        have z0 := HZ.out.cell 0; have z1 := HZ.out.cell 1; have z2 := HZ.out.cell 2; have z3 := HZ.out.cell 3; have z4 := HZ.out.cell 4; have z5 := HZ.out.cell 5; have zf := HZ.out.frozen
        go_simp
        try go_wp2_with fail
        refine hK.out _ _ ?_ (fun hHeld => ?_)
        · (try dsimp only); (have hne : w.heap.size ≠ w2.heap.size := by omega); (have hX := (((((((ExtB.refl w2.heap.size wg).set_ 0 (.bool ex)).set_ 1 (.bool ht)).set_ 2 (.bool hm)).set_ 3 (.bool tw)).set_ 4 (.string tt)).set_ 5 (.int .i64 md))); (obtain ⟨⟨c0, c1, c2, c3, c4, c5, c6, c7⟩, _⟩ := HC3.out _ hE); (have hq : some w.heap.size ≠ some w2.heap.size := fun e => hne (by injection e)); exact ⟨World.grownBy.cell hX c0 hq, World.grownBy.cell hX c1 hq, World.grownBy.cell hX c2 hq, World.grownBy.cell hX c3 hq, World.grownBy.cell hX c4 hq, World.grownBy.cell hX c5 hq, World.grownBy.cell hX c6 hq, World.grownBy.cell hX c7 hq⟩
        clear hK K
        (try simp only [Act.put, List.setIfInBounds_toArray, List.set_cons_zero, List.set_cons_succ])
        refine wpAnyH_done (by kernel_rfl) ?_ _
        have hG := (((((((ExtB.refl w2.heap.size wg).set_ 0 (.bool ex)).set_ 1 (.bool ht)).set_ 2 (.bool hm)).set_ 3 (.bool tw)).set_ 4 (.string tt)).set_ 5 (.int .i64 md))
        have hY := (((((HZ.out.set_ 0 (.bool ex)).set_ 1 (.bool ht)).set_ 2 (.bool hm)).set_ 3 (.bool tw)).set_ 4 (.string tt)).set_ 5 (.int .i64 md)
        go_wp2_with fail
        go_meet
        exact ⟨A2, k2, w2.heap.size, rfl, rfl, Rd.growB hf2.out hG (fun a ha => by have := hne2 a ha; omega), hk2, hY, hE.growB hG hgs⟩
    case rest =>
    obtain ⟨A2, k2, gS, rfl, rfl, hfF, hk2, hY, hF3⟩ := hcut
    have HY := Lib.hid hY; have HF3 := Lib.hid hF3; have HfF := Lib.hid hfF
    clear hY hF3 hfF HF hlt2
    go_wp2_with fail
    refine (field_Set A2 n k2 fs imN tags _ HfF.out (by omega) (by decide) Hbs.out).mono ?_; rintro e w4 ⟨A4, n4, k4, rfl, hf4, hk4, hb4, _⟩
    go_wp2_with fail
    have hl4 := setS_len imN tags fs
    have hs4 := sumF_set imN tags fs
    have hm4 : n4 = (setS imN tags fs).length := hf4.lenF.symm
    have hL := Hl.out
    have hS3 := Hs3.out
    rw [show imN.size = 8 from rfl] at hs4
    have Hb4 := Lib.hid ((bsz_sum (setS imN tags fs)).mono (show sumF (setS imN tags fs) ≤ 1048576 by omega))
    have Hn4 := Lib.hid (show n4 ≤ 21 ∧ sumF (setS imN tags fs) ≤ 4000 by omega)
    clear hl4 hs4 hm4 hL hS3
    refine (field_Set A4 n4 k4 _ iusN date _ hf4 (by have := Hn4.out; omega) (by decide) (Hb4.out.mono (by decide))).mono ?_; rintro e w5 ⟨A5, n5, k5, rfl, hf5, hk5, hb5, _⟩
    go_wp2_with fail
    have hl5 := setS_len iusN date (setS imN tags fs)
    have hs5 := sumF_set iusN date (setS imN tags fs)
    have hm5 : n5 = (setS iusN date (setS imN tags fs)).length := hf5.lenF.symm
    rw [show iusN.size = 19 from rfl] at hs5
    have Hn5 := Lib.hid (show n5 ≤ 22 ∧ sumF (setS iusN date (setS imN tags fs)) ≤ 5000 by have := Hn4.out; have := hf4.lenF; omega)
    clear hl5 hs5 hm5
    refine (field_Set A2 n k2 fs inmN tags _ (HfF.out.ext (hb4.trans hb5)) (by omega) (by decide) Hbs.out).mono ?_; rintro e w6 ⟨A6, n6, k6, rfl, hf6, hk6, hb6, _⟩
    go_wp2_with fail
    have hl6 := setS_len inmN tags fs
    have hs6 := sumF_set inmN tags fs
    have hm6 : n6 = (setS inmN tags fs).length := hf6.lenF.symm
    have hL := Hl.out
    have hS3 := Hs3.out
    rw [show inmN.size = 13 from rfl] at hs6
    have Hn6 := Lib.hid (show n6 ≤ 21 ∧ sumF (setS inmN tags fs) ≤ 4000 by omega)
    have Hb6 := Lib.hid ((bsz_sum (setS inmN tags fs)).mono (show sumF (setS inmN tags fs) ≤ 1048576 by omega))
    clear hl6 hs6 hm6 hL hS3
    refine (field_Set A6 n6 k6 _ imsN date _ hf6 (by have := Hn6.out; omega) (by decide) (Hb6.out.mono (by decide))).mono ?_; rintro e w7 ⟨A7, n7, k7, rfl, hf7, hk7, hb7, _⟩
    go_wp2_with fail
    have hl7 := setS_len imsN date (setS inmN tags fs)
    have hs7 := sumF_set imsN date (setS inmN tags fs)
    have hm7 : n7 = (setS imsN date (setS inmN tags fs)).length := hf7.lenF.symm
    rw [show imsN.size = 17 from rfl] at hs7
    have Hn7 := Lib.hid (show n7 ≤ 22 ∧ sumF (setS imsN date (setS inmN tags fs)) ≤ 5000 by have := Hn6.out; have := hf6.lenF; omega)
    clear hl7 hs7 hm7
    have h67 := hb6.trans hb7
    have h57 := hb5.trans h67
    have h47 := hb4.trans h57
    have HT := Lib.hid (HF3.out.trans h47)
    have V4 := Lib.hid (fun w' (h : Ext w7 w') => val_Evaluate m A4 n4 k4 _ ⟨ex, ht, hm, tw, tt, md⟩ w' (hf4.ext (h57.trans h)) (by have := Hn4.out; omega) Hb4.out (by have := Hn4.out; omega) (by have := Hn4.out; omega) (HG.out _ (HT.out.trans h)))
    have V5 := Lib.hid (fun w' (h : Ext w7 w') => val_Evaluate m A5 n5 k5 _ ⟨ex, ht, hm, tw, tt, md⟩ w' (hf5.ext (h67.trans h)) (by have := Hn5.out; omega) ((bsz_sum _).mono (by have := Hn5.out; omega)) (by have := Hn5.out; omega) (by have := Hn5.out; omega) (HG.out _ (HT.out.trans h)))
    have V6 := Lib.hid (fun w' (h : Ext w7 w') => val_Evaluate m A6 n6 k6 _ ⟨ex, ht, hm, tw, tt, md⟩ w' (hf6.ext (hb7.trans h)) (by have := Hn6.out; omega) Hb6.out (by have := Hn6.out; omega) (by have := Hn6.out; omega) (HG.out _ (HT.out.trans h)))
    have V7 := Lib.hid (fun w' (h : Ext w7 w') => val_Evaluate m A7 n7 k7 _ ⟨ex, ht, hm, tw, tt, md⟩ w' (hf7.ext h) (by have := Hn7.out; omega) ((bsz_sum _).mono (by have := Hn7.out; omega)) (by have := Hn7.out; omega) (by have := Hn7.out; omega) (HG.out _ (HT.out.trans h)))
    rw [prec_im] at V5
    rw [prec_inm] at V7
    generalize evF m (setS imN tags fs) ⟨ex, ht, hm, tw, tt, md⟩ = E at *
    generalize evF m (setS inmN tags fs) ⟨ex, ht, hm, tw, tt, md⟩ = E2 at *
    have hEE : (E == E) = true := by simp
    have hEE2 : (E2 == E2) = true := by simp
    have HS := Lib.hid (show ∀ w', Ext w7 w' → (w'.cell? ⟨w.heap.size, 0, none⟩ = some (.string m) ∧ w'.cell? ⟨gS, 0, none⟩ = some (.bool ex) ∧ w'.cell? ⟨gS, 1, none⟩ = some (.bool ht) ∧ w'.cell? ⟨gS, 2, none⟩ = some (.bool hm) ∧ w'.cell? ⟨gS, 3, none⟩ = some (.bool tw) ∧ w'.cell? ⟨gS, 4, none⟩ = some (.string tt) ∧ w'.cell? ⟨gS, 5, none⟩ = some (.int .i64 md)) from fun w' h => ⟨(HC3.out _ (HT.out.trans h)).1.1, (HY.out.ext (h47.trans h)).cell 0, (HY.out.ext (h47.trans h)).cell 1, (HY.out.ext (h47.trans h)).cell 2, (HY.out.ext (h47.trans h)).cell 3, (HY.out.ext (h47.trans h)).cell 4, (HY.out.ext (h47.trans h)).cell 5⟩)
    have HE7 := Lib.hid (HE2.out.trans HT.out)
    clear HC3 HT HY HF3 HfF hf4 hf5 hf6 hf7 Hn4 Hn5 Hn6 Hn7 Hb4 Hb6 h67 h57 h47 hb4 hb5 hb6 hb7 hk4 hk5 hk6 hk7 Hbs Hn20 Hs3 HE2 HG hk2 h500 hn20
    have hE := (Ext.refl w7).drew
    refine wp_region_held_drew (S := (fun w' => w'.cell? ⟨w.heap.size, 0, none⟩ = some (.string m) ∧ w'.cell? ⟨gS, 0, none⟩ = some (.bool ex) ∧ w'.cell? ⟨gS, 1, none⟩ = some (.bool ht) ∧ w'.cell? ⟨gS, 2, none⟩ = some (.bool hm) ∧ w'.cell? ⟨gS, 3, none⟩ = some (.bool tw) ∧ w'.cell? ⟨gS, 4, none⟩ = some (.string tt) ∧ w'.cell? ⟨gS, 5, none⟩ = some (.int .i64 md))) (by kernel_rfl) ?_ (fun hHeld => ?_)
    · (try dsimp only); exact HS.out _ hE
    refine wpAnyH_take (i := 0) (oi := { dst := some 48, op := _, type := _, pos := _, after := _, guard := _ }) (v := ?_) rfl (by kernel_rfl) (by kernel_rfl) (by kernel_rfl) (fun _ _ _ h => h) (Or.inl ⟨by rfl, ?_⟩) (by assumption) ?_
    rotate_left
    · (intro w hSw; (try dsimp only at hSw); go_simp; (try with_reducible rfl))
    (try simp only [Act.put, List.setIfInBounds_toArray, List.set_cons_zero, List.set_cons_succ])
    refine wpAnyH_take (i := 1) (oi := { dst := some 49, op := _, type := _, pos := _, after := _, guard := _ }) (v := ?_) rfl (by kernel_rfl) (by kernel_rfl) (by kernel_rfl) (fun _ _ _ h => h) (Or.inl ⟨by rfl, ?_⟩) (by assumption) ?_
    rotate_left
    · (intro w hSw; (try dsimp only at hSw); go_simp; (try with_reducible rfl))
    (try simp only [Act.put, List.setIfInBounds_toArray, List.set_cons_zero, List.set_cons_succ])
    refine wpAnyH_take (i := 2) (oi := { dst := some 50, op := _, type := _, pos := _, after := _, guard := _ }) (v := ?_) rfl (by kernel_rfl) (by kernel_rfl) (by kernel_rfl) (fun _ _ _ h => h) (Or.inl ⟨by rfl, ?_⟩) (by assumption) ?_
    rotate_left
    · (intro w hSw; (try dsimp only at hSw); go_simp; (try with_reducible rfl))
    (try simp only [Act.put, List.setIfInBounds_toArray, List.set_cons_zero, List.set_cons_succ])
    refine wpAnyH_take (i := 3) (oi := { dst := some 51, op := _, type := _, pos := _, after := _, guard := _ }) (v := ?_) rfl (by kernel_rfl) (by kernel_rfl) (by kernel_rfl) (fun _ _ _ h => h) (Or.inl ⟨by rfl, ?_⟩) (by assumption) ?_
    rotate_left
    · (intro w hSw; (try dsimp only at hSw); go_simp; (try with_reducible rfl))
    (try simp only [Act.put, List.setIfInBounds_toArray, List.set_cons_zero, List.set_cons_succ])
    refine wpAnyH_take (i := 5) (oi := { dst := some 53, op := _, type := _, pos := _, after := _, guard := _ }) (v := ?_) rfl (by kernel_rfl) (by kernel_rfl) (by kernel_rfl) (fun _ _ _ h => h) (Or.inl ⟨by rfl, ?_⟩) (by assumption) ?_
    rotate_left
    · (intro w hSw; (try dsimp only at hSw); go_simp; (try with_reducible rfl))
    (try simp only [Act.put, List.setIfInBounds_toArray, List.set_cons_zero, List.set_cons_succ])
    refine wpAnyH_take (i := 6) (oi := { dst := some 54, op := _, type := _, pos := _, after := _, guard := _ }) (v := ?_) rfl (by kernel_rfl) (by kernel_rfl) (by kernel_rfl) (fun _ _ _ h => h) (Or.inl ⟨by rfl, ?_⟩) (by assumption) ?_
    rotate_left
    · (intro w hSw; (try dsimp only at hSw); go_simp; (try with_reducible rfl))
    (try simp only [Act.put, List.setIfInBounds_toArray, List.set_cons_zero, List.set_cons_succ])
    refine wpAnyH_take (i := 7) (oi := { dst := some 55, op := _, type := _, pos := _, after := _, guard := _ }) (v := ?_) rfl (by kernel_rfl) (by kernel_rfl) (by kernel_rfl) (fun _ _ _ h => h) (Or.inl ⟨by rfl, ?_⟩) (by assumption) ?_
    rotate_left
    · (intro w hSw; (try dsimp only at hSw); go_simp; (try with_reducible rfl))
    (try simp only [Act.put, List.setIfInBounds_toArray, List.set_cons_zero, List.set_cons_succ])
    refine wpAnyH_take (i := 8) (oi := { dst := some 56, op := _, type := _, pos := _, after := _, guard := _ }) (v := ?_) rfl (by kernel_rfl) (by kernel_rfl) (by kernel_rfl) (fun _ _ _ h => h) (Or.inl ⟨by rfl, ?_⟩) (by assumption) ?_
    rotate_left
    · (intro w hSw; (try dsimp only at hSw); go_simp; (try with_reducible rfl))
    (try simp only [Act.put, List.setIfInBounds_toArray, List.set_cons_zero, List.set_cons_succ])
    refine wpAnyH_ready (rs := [4]) (by kernel_rfl) (by simp) ?_
    refine AllReadyH.cons (o := { dst := some 52, op := _, type := _, pos := _, after := _, guard := _ }) rfl (fun K hK => ?_) AllReadyH.nil
    go_simp
    refine (V4.out _ hE).mono ?_; rintro e w8 ⟨rfl, hb8⟩; replace hE := hE.trans hb8; clear hb8
    try go_wp2_with fail
    refine hK.out _ _ ?_ (fun hHeld => ?_)
    · (try dsimp only); exact HS.out _ hE
    clear hK K
    (try simp only [Act.put, List.setIfInBounds_toArray, List.set_cons_zero, List.set_cons_succ])
    refine wpAnyH_ready (rs := [9]) (by kernel_rfl) (by simp) ?_
    refine AllReadyH.cons (o := { dst := some 57, op := _, type := _, pos := _, after := _, guard := _ }) rfl (fun K hK => ?_) AllReadyH.nil
    go_simp
    refine (V5.out _ hE).mono ?_; rintro e w8 ⟨rfl, hb8⟩; replace hE := hE.trans hb8; clear hb8
    try go_wp2_with fail
    refine hK.out _ _ ?_ (fun hHeld => ?_)
    · (try dsimp only); exact HS.out _ hE
    clear hK K
    (try simp only [Act.put, List.setIfInBounds_toArray, List.set_cons_zero, List.set_cons_succ])
    refine wpAnyH_take (i := 10) (oi := { dst := some 58, op := _, type := _, pos := _, after := _, guard := _ }) (v := ?_) rfl (by kernel_rfl) (by kernel_rfl) (by kernel_rfl) (fun _ _ _ h => h) (Or.inl ⟨by rfl, ?_⟩) (by assumption) ?_
    rotate_left
    · (intro w hSw; (try dsimp only at hSw); go_simp; (try with_reducible rfl))
    (try simp only [Act.put, List.setIfInBounds_toArray, List.set_cons_zero, List.set_cons_succ])
    refine wpAnyH_take (i := 11) (oi := { dst := some 59, op := _, type := _, pos := _, after := _, guard := _ }) (v := ?_) rfl (by kernel_rfl) (by kernel_rfl) (by kernel_rfl) (fun _ _ _ h => h) (Or.inl ⟨by rfl, ?_⟩) (by assumption) ?_
    rotate_left
    · (intro w hSw; (try dsimp only at hSw); go_simp; (try with_reducible rfl))
    (try simp only [Act.put, List.setIfInBounds_toArray, List.set_cons_zero, List.set_cons_succ])
    refine wpAnyH_take (i := 12) (oi := { dst := some 60, op := _, type := _, pos := _, after := _, guard := _ }) (v := ?_) rfl (by kernel_rfl) (by kernel_rfl) (by kernel_rfl) (fun _ _ _ h => h) (Or.inl ⟨by rfl, ?_⟩) (by assumption) ?_
    rotate_left
    · (intro w hSw; (try dsimp only at hSw); go_simp; (try with_reducible rfl))
    (try simp only [Act.put, List.setIfInBounds_toArray, List.set_cons_zero, List.set_cons_succ])
    refine wpAnyH_take (i := 13) (oi := { dst := some 61, op := _, type := _, pos := _, after := _, guard := _ }) (v := ?_) rfl (by kernel_rfl) (by kernel_rfl) (by kernel_rfl) (fun _ _ _ h => h) (Or.inl ⟨by rfl, ?_⟩) (by assumption) ?_
    rotate_left
    · (intro w hSw; (try dsimp only at hSw); go_simp; (try with_reducible rfl))
    (try simp only [Act.put, List.setIfInBounds_toArray, List.set_cons_zero, List.set_cons_succ])
    refine wpAnyH_take (i := 14) (oi := { dst := some 62, op := _, type := _, pos := _, after := _, guard := _ }) (v := ?_) rfl (by kernel_rfl) (by kernel_rfl) (by kernel_rfl) (fun _ _ _ h => h) (Or.inl ⟨by rfl, ?_⟩) (by assumption) ?_
    rotate_left
    · (intro w hSw; (try dsimp only at hSw); go_simp; (try with_reducible rfl))
    (try simp only [Act.put, List.setIfInBounds_toArray, List.set_cons_zero, List.set_cons_succ])
    refine wpAnyH_take (i := 15) (oi := { dst := some 63, op := _, type := _, pos := _, after := _, guard := _ }) (v := ?_) rfl (by kernel_rfl) (by kernel_rfl) (by kernel_rfl) (fun _ _ _ h => h) (Or.inl ⟨by rfl, ?_⟩) (by assumption) ?_
    rotate_left
    · (intro w hSw; (try dsimp only at hSw); go_simp; (try with_reducible rfl))
    (try simp only [Act.put, List.setIfInBounds_toArray, List.set_cons_zero, List.set_cons_succ])
    refine wpAnyH_take (i := 17) (oi := { dst := some 65, op := _, type := _, pos := _, after := _, guard := _ }) (v := ?_) rfl (by kernel_rfl) (by kernel_rfl) (by kernel_rfl) (fun _ _ _ h => h) (Or.inl ⟨by rfl, ?_⟩) (by assumption) ?_
    rotate_left
    · (intro w hSw; (try dsimp only at hSw); go_simp; (try with_reducible rfl))
    (try simp only [Act.put, List.setIfInBounds_toArray, List.set_cons_zero, List.set_cons_succ])
    refine wpAnyH_take (i := 18) (oi := { dst := some 66, op := _, type := _, pos := _, after := _, guard := _ }) (v := ?_) rfl (by kernel_rfl) (by kernel_rfl) (by kernel_rfl) (fun _ _ _ h => h) (Or.inl ⟨by rfl, ?_⟩) (by assumption) ?_
    rotate_left
    · (intro w hSw; (try dsimp only at hSw); go_simp; (try with_reducible rfl))
    (try simp only [Act.put, List.setIfInBounds_toArray, List.set_cons_zero, List.set_cons_succ])
    refine wpAnyH_take (i := 19) (oi := { dst := some 67, op := _, type := _, pos := _, after := _, guard := _ }) (v := ?_) rfl (by kernel_rfl) (by kernel_rfl) (by kernel_rfl) (fun _ _ _ h => h) (Or.inl ⟨by rfl, ?_⟩) (by assumption) ?_
    rotate_left
    · (intro w hSw; (try dsimp only at hSw); go_simp; (try with_reducible rfl))
    (try simp only [Act.put, List.setIfInBounds_toArray, List.set_cons_zero, List.set_cons_succ])
    refine wpAnyH_take (i := 20) (oi := { dst := some 68, op := _, type := _, pos := _, after := _, guard := _ }) (v := ?_) rfl (by kernel_rfl) (by kernel_rfl) (by kernel_rfl) (fun _ _ _ h => h) (Or.inl ⟨by rfl, ?_⟩) (by assumption) ?_
    rotate_left
    · (intro w hSw; (try dsimp only at hSw); go_simp; (try with_reducible rfl))
    (try simp only [Act.put, List.setIfInBounds_toArray, List.set_cons_zero, List.set_cons_succ])
    refine wpAnyH_ready (rs := [16]) (by kernel_rfl) (by simp) ?_
    refine AllReadyH.cons (o := { dst := some 64, op := _, type := _, pos := _, after := _, guard := _ }) rfl (fun K hK => ?_) AllReadyH.nil
    go_simp
    refine (V6.out _ hE).mono ?_; rintro e w8 ⟨rfl, hb8⟩; replace hE := hE.trans hb8; clear hb8
    try go_wp2_with fail
    refine hK.out _ _ ?_ (fun hHeld => ?_)
    · (try dsimp only); exact HS.out _ hE
    clear hK K
    (try simp only [Act.put, List.setIfInBounds_toArray, List.set_cons_zero, List.set_cons_succ])
    refine wpAnyH_ready (rs := [21]) (by kernel_rfl) (by simp) ?_
    refine AllReadyH.cons (o := { dst := some 69, op := _, type := _, pos := _, after := _, guard := _ }) rfl (fun K hK => ?_) AllReadyH.nil
    go_simp
    refine (V7.out _ hE).mono ?_; rintro e w8 ⟨rfl, hb8⟩; replace hE := hE.trans hb8; clear hb8
    try go_wp2_with fail
    refine hK.out _ _ ?_ (fun hHeld => ?_)
    · (try dsimp only); exact HS.out _ hE
    clear hK K
    (try simp only [Act.put, List.setIfInBounds_toArray, List.set_cons_zero, List.set_cons_succ])
    refine wpAnyH_take (i := 22) (oi := { dst := some 70, op := _, type := _, pos := _, after := _, guard := _ }) (v := ?_) rfl (by kernel_rfl) (by kernel_rfl) (by kernel_rfl) (fun _ _ _ h => h) (Or.inl ⟨by rfl, ?_⟩) (by assumption) ?_
    rotate_left
    · (intro w hSw; (try dsimp only at hSw); go_simp; (try with_reducible rfl))
    (try simp only [Act.put, List.setIfInBounds_toArray, List.set_cons_zero, List.set_cons_succ])
    refine wpAnyH_take (i := 23) (oi := { dst := some 71, op := _, type := _, pos := _, after := _, guard := _ }) (v := ?_) rfl (by kernel_rfl) (by kernel_rfl) (by kernel_rfl) (fun _ _ _ h => h) (Or.inl ⟨by rfl, ?_⟩) (by assumption) ?_
    rotate_left
    · (intro w hSw; (try dsimp only at hSw); go_simp; (try with_reducible rfl))
    (try simp only [Act.put, List.setIfInBounds_toArray, List.set_cons_zero, List.set_cons_succ])
    refine wpAnyH_take (i := 24) (oi := { dst := some 6, op := _, type := _, pos := _, after := _, guard := _ }) (v := ?_) rfl (by kernel_rfl) (by kernel_rfl) (by kernel_rfl) (fun _ _ _ h => h) (Or.inl ⟨by rfl, ?_⟩) (by assumption) ?_
    rotate_left
    · (intro w hSw; (try dsimp only at hSw); go_simp; (try with_reducible rfl))
    (try simp only [Act.put, List.setIfInBounds_toArray, List.set_cons_zero, List.set_cons_succ])
    refine wpAnyH_done (by kernel_rfl) ?_ _
    go_wp2_with fail
    go_ret
    exact ⟨rfl, HE7.out.trans hE⟩
end Go.Proofs.YtghaopeijncgaaaDoor
