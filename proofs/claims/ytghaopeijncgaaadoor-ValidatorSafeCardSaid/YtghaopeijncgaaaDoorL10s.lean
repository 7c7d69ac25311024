
/- The walk of ValidatorSafe: it returns true. -/
import Derived.Test.YtghaopeijncgaaaDoorL10e
import Derived.Test.YtghaopeijncgaaaDoorRem
namespace Go.Proofs.YtghaopeijncgaaaDoor
open Go.RowKit

def nmL4 : List ByteArray := [imN, inmN, imsN, iusN]
/-- A list without the first k of the four names. -/
def bareTo (fs : List Fd) : Nat → List Fd
  | 0 => fs
  | 1 => remS fs imN
  | 2 => remS (remS fs imN) inmN
  | 3 => remS (remS (remS fs imN) inmN) imsN
  | _ => bareS fs
theorem bare_step (fs : List Fd) {k : Nat} (h : k < 4) : remS (bareTo fs k) (nmL4[k]'h) = bareTo fs (k + 1) := by
  have : k = 0 ∨ k = 1 ∨ k = 2 ∨ k = 3 := by omega
  rcases this with rfl | rfl | rfl | rfl <;> rfl
theorem bareTo_bsz {B : Nat} {fs : List Fd} (h : Bsz B fs) : ∀ k, Bsz B (bareTo fs k)
  | 0 => h
  | 1 => remS_bsz h
  | 2 => remS_bsz (remS_bsz h)
  | 3 => remS_bsz (remS_bsz (remS_bsz h))
  | _ + 4 => remS_bsz (remS_bsz (remS_bsz (remS_bsz h)))
theorem bareTo_len (fs : List Fd) (k : Nat) (hk : k ≤ 4) : (bareTo fs k).length ≤ fs.length := by
  have a1 := remS_le fs imN
  have a2 := remS_le (remS fs imN) inmN
  have a3 := remS_le (remS (remS fs imN) inmN) imsN
  have a4 := (bare_bd fs).1
  have : k = 0 ∨ k = 1 ∨ k = 2 ∨ k = 3 ∨ k = 4 := by omega
  rcases this with rfl | rfl | rfl | rfl | rfl <;> simp only [bareTo] <;> omega
theorem nm_small {k : Nat} (h : k < 4) : (nmL4[k]'h).size ≤ 100 := by
  have : k = 0 ∨ k = 1 ∨ k = 2 ∨ k = 3 := by omega
  rcases this with rfl | rfl | rfl | rfl
  · show imN.size ≤ 100; decide
  · show inmN.size ≤ 100; decide
  · show imsN.size ≤ 100; decide
  · show iusN.size ≤ 100; decide
theorem eq1_if (b : Bool) : ((if b then (1 : Int) else 3) == 1) = b := by cases b <;> rfl
theorem eq1_if' (b r : Bool) : ((if b then (if r then (2 : Int) else 3) else 1) == 1) = !b := by cases b <;> cases r <;> rfl
theorem sum_im : sumF [(lowS imN, starV)] = 9 := by decide +kernel
theorem sum_inm : sumF [(lowS inmN, starB)] = 16 := by decide +kernel

set_option maxHeartbeats 16000000 in
set_option maxRecDepth 100000 in
theorem safe_walk (m : ByteArray) (A : Option Addr) (n c : Nat) (fs : List Fd) (st : St) (w : World) (hf : RdF w A n fs) (hn : n ≤ 9223372036854775807) (hsz : Bsz 140737488351232 fs) (hg : GlH w) :
    Calls Tryd.prog 10 #[.agg #[.string m, .slice A n c, .bool st.ex, .bool st.ht, .bool st.hm, .bool st.tw, .string st.tt, .int .i64 st.md]] w fun e w' => e = .returned (.bool true) ∧ Ext w w' := by
  have hl := hf.lenF
  have Hl := Lib.hid hl; clear hl
  obtain ⟨ex, ht, hm, tw, tt, md⟩ := st
  have hE0 := (Ext.refl w).alloc (.cells #[.string m, .slice A n c, .bool ex, .bool ht, .bool hm, .bool tw, .string tt, .int .i64 md] 54)
  have hB := Blk.new w 54 #[.string m, .slice A n c, .bool ex, .bool ht, .bool hm, .bool tw, .string tt, .int .i64 md]
  go_enter Tryd.func10, Tryd.ntmps10
  go_wp2_with fail
  generalize w.alloc (.cells #[.string m, .slice A n c, .bool ex, .bool ht, .bool hm, .bool tw, .string tt, .int .i64 md] 54) = W0 at *
  have HC := Lib.hid (show ∀ w', Ext W0 w' → (w'.cell? ⟨w.heap.size, 0, none⟩ = some (.string m) ∧ w'.cell? ⟨w.heap.size, 1, none⟩ = some (.slice A n c) ∧ w'.cell? ⟨w.heap.size, 2, none⟩ = some (.bool ex) ∧ w'.cell? ⟨w.heap.size, 3, none⟩ = some (.bool ht) ∧ w'.cell? ⟨w.heap.size, 4, none⟩ = some (.bool hm) ∧ w'.cell? ⟨w.heap.size, 5, none⟩ = some (.bool tw) ∧ w'.cell? ⟨w.heap.size, 6, none⟩ = some (.string tt) ∧ w'.cell? ⟨w.heap.size, 7, none⟩ = some (.int .i64 md)) ∧ w.heap.size < w'.heap.size from fun w' h => ⟨⟨(hB.ext h).cell 0, (hB.ext h).cell 1, (hB.ext h).cell 2, (hB.ext h).cell 3, (hB.ext h).cell 4, (hB.ext h).cell 5, (hB.ext h).cell 6, (hB.ext h).cell 7⟩, (hB.ext h).lt⟩)
  have hlt0 := hB.lt
  clear hB
  refine (law_awake _).mono ?_; rintro e w1 ⟨rfl, hb1⟩
  obtain ⟨⟨c0, c1, c2, c3, c4, c5, c6, c7⟩, hlt1⟩ := HC.out _ hb1
  go_wp2_with fail
  refine (law_few A n c fs _ (hf.ext (hE0.trans hb1)) hn _ (by decide) hsz).mono ?_; rintro e w2 ⟨rfl, hb2⟩
  have h2 := hb1.trans hb2
  clear c0 c1 c2 c3 c4 c5 c6 c7 hlt1
  have HE2 := Lib.hid (hE0.trans h2)
  cases hfw : fewS fs
  · go_wp2_with fail
    refine (law_awake _).mono ?_; rintro e w3 ⟨rfl, hb3⟩
    go_wp2_with fail
    go_ret
    exact ⟨rfl, HE2.out.trans hb3⟩
  · obtain ⟨hn20, hs3⟩ := few_yes hfw
    have Hn20 := Lib.hid (show n ≤ 20 by have := Hl.out; omega)
    have Hs3 := Lib.hid hs3
    have hn20 : n ≤ 20 := Hn20.out
    have Hbs := Lib.hid ((bsz_sum fs).mono (show sumF fs ≤ 1048576 by omega))
    have HF := Lib.hid (fun w' (h : Ext w2 w') => hf.ext (HE2.out.trans h))
    have HG := Lib.hid (fun w' (h : Ext w2 w') => hg.ext (HE2.out.trans h))
    have HC3 := Lib.hid (show ∀ w', Ext w2 w' → (w'.cell? ⟨w.heap.size, 0, none⟩ = some (.string m) ∧ w'.cell? ⟨w.heap.size, 1, none⟩ = some (.slice A n c) ∧ w'.cell? ⟨w.heap.size, 2, none⟩ = some (.bool ex) ∧ w'.cell? ⟨w.heap.size, 3, none⟩ = some (.bool ht) ∧ w'.cell? ⟨w.heap.size, 4, none⟩ = some (.bool hm) ∧ w'.cell? ⟨w.heap.size, 5, none⟩ = some (.bool tw) ∧ w'.cell? ⟨w.heap.size, 6, none⟩ = some (.string tt) ∧ w'.cell? ⟨w.heap.size, 7, none⟩ = some (.int .i64 md)) ∧ w.heap.size < w'.heap.size from fun w' h => HC.out _ (h2.trans h))
    clear HC hlt0 hs3 h2 hb1 hb2 hf hg hE0 hsz hfw hn
    have hlt2 := (HC3.out _ (Ext.refl w2)).2
    go_upto_region 3 with fail
    go_cut [3, 4] (fun x7 x8 wx => ∃ A2 k2 gS, x7 = .slice A2 n k2 ∧ x8 = .pointer (some ⟨gS, 0, none⟩) ∧ RdF wx A2 n fs ∧ n ≤ k2 ∧ Blk wx gS 61 #[.bool ex, .bool ht, .bool hm, .bool tw, .string tt, .int .i64 md] ∧ Ext w2 wx)
    case first =>
      have hst : stArr ⟨ex, ht, hm, tw, tt, md⟩ = #[.bool ex, .bool ht, .bool hm, .bool tw, .string tt, .int .i64 md] := rfl
      have hE := (Ext.refl w2).drew
      go_wp2_with fail
      refine wp_region_held_drew (S := (fun w' => w'.cell? ⟨w.heap.size, 0, none⟩ = some (.string m) ∧ w'.cell? ⟨w.heap.size, 1, none⟩ = some (.slice A n c) ∧ w'.cell? ⟨w.heap.size, 2, none⟩ = some (.bool ex) ∧ w'.cell? ⟨w.heap.size, 3, none⟩ = some (.bool ht) ∧ w'.cell? ⟨w.heap.size, 4, none⟩ = some (.bool hm) ∧ w'.cell? ⟨w.heap.size, 5, none⟩ = some (.bool tw) ∧ w'.cell? ⟨w.heap.size, 6, none⟩ = some (.string tt) ∧ w'.cell? ⟨w.heap.size, 7, none⟩ = some (.int .i64 md))) (by kernel_rfl) ?_ (fun hHeld => ?_)
      · (try dsimp only); exact (HC3.out _ hE).1
      refine wpAnyH_take (i := 0) (oi := { dst := some 19, op := _, type := _, pos := _, after := _, guard := _ }) (v := ?_) rfl (by kernel_rfl) (by kernel_rfl) (by kernel_rfl) (fun _ _ _ h => h) (Or.inl ⟨by rfl, ?_⟩) (by assumption) ?_
      rotate_left
      · (intro w hSw; (try dsimp only at hSw); go_simp; (try with_reducible rfl))
      (try simp only [Act.put, List.setIfInBounds_toArray, List.set_cons_zero, List.set_cons_succ])
      refine wpAnyH_take (i := 1) (oi := { dst := some 20, op := _, type := _, pos := _, after := _, guard := _ }) (v := ?_) rfl (by kernel_rfl) (by kernel_rfl) (by kernel_rfl) (fun _ _ _ h => h) (Or.inl ⟨by rfl, ?_⟩) (by assumption) ?_
      rotate_left
      · (intro w hSw; (try dsimp only at hSw); go_simp; (try with_reducible rfl))
      (try simp only [Act.put, List.setIfInBounds_toArray, List.set_cons_zero, List.set_cons_succ])
      refine wpAnyH_take (i := 3) (oi := { dst := some 22, op := _, type := _, pos := _, after := _, guard := _ }) (v := ?_) rfl (by kernel_rfl) (by kernel_rfl) (by kernel_rfl) (fun _ _ _ h => h) (Or.inl ⟨by rfl, ?_⟩) (by assumption) ?_
      rotate_left
      · (intro w hSw; (try dsimp only at hSw); go_simp; (try with_reducible rfl))
      (try simp only [Act.put, List.setIfInBounds_toArray, List.set_cons_zero, List.set_cons_succ])
      refine wpAnyH_take (i := 4) (oi := { dst := some 23, op := _, type := _, pos := _, after := _, guard := _ }) (v := ?_) rfl (by kernel_rfl) (by kernel_rfl) (by kernel_rfl) (fun _ _ _ h => h) (Or.inl ⟨by rfl, ?_⟩) (by assumption) ?_
      rotate_left
      · (intro w hSw; (try dsimp only at hSw); go_simp; (try with_reducible rfl))
      (try simp only [Act.put, List.setIfInBounds_toArray, List.set_cons_zero, List.set_cons_succ])
      refine wpAnyH_ready (rs := [2, 6]) (by kernel_rfl) (by simp) ?_
      refine AllReadyH.cons (o := { dst := some 21, op := _, type := _, pos := _, after := _, guard := _ }) rfl (fun K hK => ?_) (AllReadyH.cons (o := { dst := some 4, op := _, type := _, pos := _, after := _, guard := _ }) rfl (fun K hK => ?_) AllReadyH.nil)
      · go_simp
        refine (law_Fields A n c fs _ (HF.out _ hE) (by omega)).mono ?_; rintro e wf ⟨A2, k2, rfl, hf2, hk2, hbf, hown⟩; have hne2 := own_at hown; have hsf := hE.size; (try simp only [World.size_alloc] at hsf); replace hE := hE.trans hbf; have hf2 := Lib.hid hf2; clear hown
        try go_wp2_with fail
        refine hK.out _ _ ?_ (fun hHeld => ?_)
        · (try dsimp only); exact (HC3.out _ hE).1
        clear hK K
        (try simp only [Act.put, List.setIfInBounds_toArray, List.set_cons_zero, List.set_cons_succ])
        refine wpAnyH_ready (rs := [5, 6]) (by kernel_rfl) (by simp) ?_
        refine AllReadyH.cons (o := { dst := some 24, op := _, type := _, pos := _, after := _, guard := _ }) rfl (fun K hK => ?_) (AllReadyH.cons (o := { dst := some 4, op := _, type := _, pos := _, after := _, guard := _ }) rfl (fun K hK => ?_) AllReadyH.nil)
        · go_simp
          refine (law_State ⟨ex, ht, hm, tw, tt, md⟩ _).mono ?_; rintro e wg ⟨rfl, hbg⟩; rw [hst]; have hsg := hbg.size; (try simp only [World.size_alloc] at hsg); replace hE := hE.trans hbg; replace hf2 := Lib.hid (hf2.out.ext hbg);
          try go_wp2_with fail
          refine hK.out _ _ ?_ (fun hHeld => ?_)
          · (try dsimp only); exact (HC3.out _ hE).1
          clear hK K
          (try simp only [Act.put, List.setIfInBounds_toArray, List.set_cons_zero, List.set_cons_succ])
          refine wpAnyH_ready (rs := [6]) (by kernel_rfl) (by simp) ?_
          refine AllReadyH.cons (o := { dst := some 4, op := _, type := _, pos := _, after := _, guard := _ }) rfl (fun K hK => ?_) AllReadyH.nil
          go_simp
          have hEw := Lib.hid hE; have hgs : w2.heap.size ≤ wg.heap.size := hE.size; have HZ := Lib.hid (show Blk (wg.alloc (.cells #[.bool false, .bool false, .bool false, .bool false, .string ⟨#[]⟩, .int .i64 0] 61)) wg.heap.size 61 #[.bool false, .bool false, .bool false, .bool false, .string ⟨#[]⟩, .int .i64 0] from Blk.new wg 61 #[.bool false, .bool false, .bool false, .bool false, .string ⟨#[]⟩, .int .i64 0]); have hE := hE.alloc (.cells #[.bool false, .bool false, .bool false, .bool false, .string ⟨#[]⟩, .int .i64 0] 61); have hf2w := hf2; replace hf2 := Lib.hid (hf2.out.alloc (.cells #[.bool false, .bool false, .bool false, .bool false, .string ⟨#[]⟩, .int .i64 0] 61))
          try go_wp2_with fail
          refine hK.out _ _ ?_ (fun hHeld => ?_)
          · (try dsimp only); exact (HC3.out _ hE).1
          clear hK K
          (try simp only [Act.put, List.setIfInBounds_toArray, List.set_cons_zero, List.set_cons_succ])
          refine wpAnyH_take (i := 7) (oi := { dst := some 3, op := _, type := _, pos := _, after := _, guard := _ }) (v := ?_) rfl (by kernel_rfl) (by kernel_rfl) (by kernel_rfl) (fun _ _ _ h => h) (Or.inl ⟨by rfl, ?_⟩) (by assumption) ?_
          rotate_left
          · (intro w hSw; (try dsimp only at hSw); go_simp; (try with_reducible rfl))
          (try simp only [Act.put, List.setIfInBounds_toArray, List.set_cons_zero, List.set_cons_succ])
          refine wpAnyH_ready (rs := [8]) (by kernel_rfl) (by simp) ?_
          refine AllReadyH.cons (o := { dst := none, op := _, type := _, pos := _, after := _, guard := _ }) rfl (fun K hK => ?_) AllReadyH.nil
          have z0 := HZ.out.cell 0; have z1 := HZ.out.cell 1; have z2 := HZ.out.cell 2; have z3 := HZ.out.cell 3; have z4 := HZ.out.cell 4; have z5 := HZ.out.cell 5; have zf := HZ.out.frozen
          go_simp
          try go_wp2_with fail
          refine hK.out _ _ ?_ (fun hHeld => ?_)
          · (try dsimp only); exact (HC3.out _ (hEw.out.alloc (.cells #[.bool ex, .bool ht, .bool hm, .bool tw, .string tt, .int .i64 md] 61))).1
          clear hK K
          (try simp only [Act.put, List.setIfInBounds_toArray, List.set_cons_zero, List.set_cons_succ])
          refine wpAnyH_done (by kernel_rfl) ?_ _
          go_wp2_with fail
          go_meet
          exact ⟨A2, k2, wg.heap.size, rfl, rfl, hf2w.out.alloc (.cells #[.bool ex, .bool ht, .bool hm, .bool tw, .string tt, .int .i64 md] 61), hk2, Blk.new wg 61 #[.bool ex, .bool ht, .bool hm, .bool tw, .string tt, .int .i64 md], hEw.out.alloc (.cells #[.bool ex, .bool ht, .bool hm, .bool tw, .string tt, .int .i64 md] 61)⟩
        · go_simp
          have hEw := Lib.hid hE; have hgs : w2.heap.size ≤ wf.heap.size := hE.size; have HZ := Lib.hid (show Blk (wf.alloc (.cells #[.bool false, .bool false, .bool false, .bool false, .string ⟨#[]⟩, .int .i64 0] 61)) wf.heap.size 61 #[.bool false, .bool false, .bool false, .bool false, .string ⟨#[]⟩, .int .i64 0] from Blk.new wf 61 #[.bool false, .bool false, .bool false, .bool false, .string ⟨#[]⟩, .int .i64 0]); have hE := hE.alloc (.cells #[.bool false, .bool false, .bool false, .bool false, .string ⟨#[]⟩, .int .i64 0] 61); have hf2w := hf2; replace hf2 := Lib.hid (hf2.out.alloc (.cells #[.bool false, .bool false, .bool false, .bool false, .string ⟨#[]⟩, .int .i64 0] 61))
          try go_wp2_with fail
          refine hK.out _ _ ?_ (fun hHeld => ?_)
          · (try dsimp only); exact (HC3.out _ hE).1
          clear hK K
          (try simp only [Act.put, List.setIfInBounds_toArray, List.set_cons_zero, List.set_cons_succ])
          refine wpAnyH_ready (rs := [5]) (by kernel_rfl) (by simp) ?_
          refine AllReadyH.cons (o := { dst := some 24, op := _, type := _, pos := _, after := _, guard := _ }) rfl (fun K hK => ?_) AllReadyH.nil
          go_simp
          refine (law_State ⟨ex, ht, hm, tw, tt, md⟩ _).mono ?_; rintro e wg ⟨rfl, hbg⟩; rw [hst]; have hsg := hbg.size; (try simp only [World.size_alloc] at hsg); replace hE := hE.trans hbg; replace hf2 := Lib.hid (hf2.out.ext hbg); replace HZ := Lib.hid (HZ.out.ext hbg);
          try go_wp2_with fail
          refine hK.out _ _ ?_ (fun hHeld => ?_)
          · (try dsimp only); exact (HC3.out _ hE).1
          clear hK K
          (try simp only [Act.put, List.setIfInBounds_toArray, List.set_cons_zero, List.set_cons_succ])
          refine wpAnyH_take (i := 7) (oi := { dst := some 3, op := _, type := _, pos := _, after := _, guard := _ }) (v := ?_) rfl (by kernel_rfl) (by kernel_rfl) (by kernel_rfl) (fun _ _ _ h => h) (Or.inl ⟨by rfl, ?_⟩) (by assumption) ?_
          rotate_left
          · (intro w hSw; (try dsimp only at hSw); go_simp; (try with_reducible rfl))
          (try simp only [Act.put, List.setIfInBounds_toArray, List.set_cons_zero, List.set_cons_succ])
          refine wpAnyH_ready (rs := [8]) (by kernel_rfl) (by simp) ?_
          refine AllReadyH.cons (o := { dst := none, op := _, type := _, pos := _, after := _, guard := _ }) rfl (fun K hK => ?_) AllReadyH.nil
          have z0 := HZ.out.cell 0; have z1 := HZ.out.cell 1; have z2 := HZ.out.cell 2; have z3 := HZ.out.cell 3; have z4 := HZ.out.cell 4; have z5 := HZ.out.cell 5; have zf := HZ.out.frozen
          go_simp
          try go_wp2_with fail
          refine hK.out _ _ ?_ (fun hHeld => ?_)
          · (try dsimp only); (have hne : w.heap.size ≠ wf.heap.size := by omega); (have hX := (((((((ExtB.refl wf.heap.size wg).set_ 0 (.bool ex)).set_ 1 (.bool ht)).set_ 2 (.bool hm)).set_ 3 (.bool tw)).set_ 4 (.string tt)).set_ 5 (.int .i64 md))); (obtain ⟨⟨c0, c1, c2, c3, c4, c5, c6, c7⟩, _⟩ := HC3.out _ hE); (have hq : some w.heap.size ≠ some wf.heap.size := fun e => hne (by injection e)); exact ⟨World.grownBy.cell hX c0 hq, World.grownBy.cell hX c1 hq, World.grownBy.cell hX c2 hq, World.grownBy.cell hX c3 hq, World.grownBy.cell hX c4 hq, World.grownBy.cell hX c5 hq, World.grownBy.cell hX c6 hq, World.grownBy.cell hX c7 hq⟩
          clear hK K
          (try simp only [Act.put, List.setIfInBounds_toArray, List.set_cons_zero, List.set_cons_succ])
          refine wpAnyH_done (by kernel_rfl) ?_ _
          have hG := (((((((ExtB.refl wf.heap.size wg).set_ 0 (.bool ex)).set_ 1 (.bool ht)).set_ 2 (.bool hm)).set_ 3 (.bool tw)).set_ 4 (.string tt)).set_ 5 (.int .i64 md))
          have hY := (((((HZ.out.set_ 0 (.bool ex)).set_ 1 (.bool ht)).set_ 2 (.bool hm)).set_ 3 (.bool tw)).set_ 4 (.string tt)).set_ 5 (.int .i64 md)
          go_wp2_with fail
          go_meet
          exact ⟨A2, k2, wf.heap.size, rfl, rfl, Rd.growB hf2.out hG (fun a ha => by have := hne2 a ha; omega), hk2, hY, hE.growB hG hgs⟩
      · go_simp
        have hEw := Lib.hid hE; have hgs : w2.heap.size ≤ w2.heap.size := hE.size; have HZ := Lib.hid (show Blk (w2.drew.alloc (.cells #[.bool false, .bool false, .bool false, .bool false, .string ⟨#[]⟩, .int .i64 0] 61)) w2.heap.size 61 #[.bool false, .bool false, .bool false, .bool false, .string ⟨#[]⟩, .int .i64 0] from Blk.new w2.drew 61 #[.bool false, .bool false, .bool false, .bool false, .string ⟨#[]⟩, .int .i64 0]); have hE := hE.alloc (.cells #[.bool false, .bool false, .bool false, .bool false, .string ⟨#[]⟩, .int .i64 0] 61)
        try go_wp2_with fail
        refine hK.out _ _ ?_ (fun hHeld => ?_)
        · (try dsimp only); exact (HC3.out _ hE).1
        clear hK K
        (try simp only [Act.put, List.setIfInBounds_toArray, List.set_cons_zero, List.set_cons_succ])
        refine wpAnyH_ready (rs := [2]) (by kernel_rfl) (by simp) ?_
        refine AllReadyH.cons (o := { dst := some 21, op := _, type := _, pos := _, after := _, guard := _ }) rfl (fun K hK => ?_) AllReadyH.nil
        go_simp
        refine (law_Fields A n c fs _ (HF.out _ hE) (by omega)).mono ?_; rintro e wf ⟨A2, k2, rfl, hf2, hk2, hbf, hown⟩; replace HZ := Lib.hid (HZ.out.ext hbf); have hne2 : ∀ a, A2 = some a → w2.heap.size + 1 ≤ a.block ∧ a.block < wf.heap.size := fun a ha => (by have h := own_at hown a ha; rw [World.size_alloc] at h; exact h); have hsf := hE.size; (try simp only [World.size_alloc] at hsf); replace hE := hE.trans hbf; have hf2 := Lib.hid hf2; clear hown
        try go_wp2_with fail
        refine hK.out _ _ ?_ (fun hHeld => ?_)
        · (try dsimp only); exact (HC3.out _ hE).1
        clear hK K
        (try simp only [Act.put, List.setIfInBounds_toArray, List.set_cons_zero, List.set_cons_succ])
        refine wpAnyH_ready (rs := [5]) (by kernel_rfl) (by simp) ?_
        refine AllReadyH.cons (o := { dst := some 24, op := _, type := _, pos := _, after := _, guard := _ }) rfl (fun K hK => ?_) AllReadyH.nil
        go_simp
        refine (law_State ⟨ex, ht, hm, tw, tt, md⟩ _).mono ?_; rintro e wg ⟨rfl, hbg⟩; rw [hst]; have hsg := hbg.size; (try simp only [World.size_alloc] at hsg); replace hE := hE.trans hbg; replace hf2 := Lib.hid (hf2.out.ext hbg); replace HZ := Lib.hid (HZ.out.ext hbg);
        try go_wp2_with fail
        refine hK.out _ _ ?_ (fun hHeld => ?_)
        · (try dsimp only); exact (HC3.out _ hE).1
        clear hK K
        (try simp only [Act.put, List.setIfInBounds_toArray, List.set_cons_zero, List.set_cons_succ])
        refine wpAnyH_take (i := 7) (oi := { dst := some 3, op := _, type := _, pos := _, after := _, guard := _ }) (v := ?_) rfl (by kernel_rfl) (by kernel_rfl) (by kernel_rfl) (fun _ _ _ h => h) (Or.inl ⟨by rfl, ?_⟩) (by assumption) ?_
        rotate_left
        · (intro w hSw; (try dsimp only at hSw); go_simp; (try with_reducible rfl))
        (try simp only [Act.put, List.setIfInBounds_toArray, List.set_cons_zero, List.set_cons_succ])
        refine wpAnyH_ready (rs := [8]) (by kernel_rfl) (by simp) ?_
        refine AllReadyH.cons (o := { dst := none, op := _, type := _, pos := _, after := _, guard := _ }) rfl (fun K hK => ?_) AllReadyH.nil
        have z0 := HZ.out.cell 0; have z1 := HZ.out.cell 1; have z2 := HZ.out.cell 2; have z3 := HZ.out.cell 3; have z4 := HZ.out.cell 4; have z5 := HZ.out.cell 5; have zf := HZ.out.frozen
        go_simp
        try go_wp2_with fail
        refine hK.out _ _ ?_ (fun hHeld => ?_)
        · (try dsimp only); (have hne : w.heap.size ≠ w2.heap.size := by omega); (have hX := (((((((ExtB.refl w2.heap.size wg).set_ 0 (.bool ex)).set_ 1 (.bool ht)).set_ 2 (.bool hm)).set_ 3 (.bool tw)).set_ 4 (.string tt)).set_ 5 (.int .i64 md))); (obtain ⟨⟨c0, c1, c2, c3, c4, c5, c6, c7⟩, _⟩ := HC3.out _ hE); (have hq : some w.heap.size ≠ some w2.heap.size := fun e => hne (by injection e)); exact ⟨World.grownBy.cell hX c0 hq, World.grownBy.cell hX c1 hq, World.grownBy.cell hX c2 hq, World.grownBy.cell hX c3 hq, World.grownBy.cell hX c4 hq, World.grownBy.cell hX c5 hq, World.grownBy.cell hX c6 hq, World.grownBy.cell hX c7 hq⟩
        clear hK K
        (try simp only [Act.put, List.setIfInBounds_toArray, List.set_cons_zero, List.set_cons_succ])
        refine wpAnyH_done (by kernel_rfl) ?_ _
        have hG := (((((((ExtB.refl w2.heap.size wg).set_ 0 (.bool ex)).set_ 1 (.bool ht)).set_ 2 (.bool hm)).set_ 3 (.bool tw)).set_ 4 (.string tt)).set_ 5 (.int .i64 md))
        have hY := (((((HZ.out.set_ 0 (.bool ex)).set_ 1 (.bool ht)).set_ 2 (.bool hm)).set_ 3 (.bool tw)).set_ 4 (.string tt)).set_ 5 (.int .i64 md)
        go_wp2_with fail
        go_meet
        exact ⟨A2, k2, w2.heap.size, rfl, rfl, Rd.growB hf2.out hG (fun a ha => by have := hne2 a ha; omega), hk2, hY, hE.growB hG hgs⟩
    case rest =>
    obtain ⟨A2, k2, gS, rfl, rfl, hfF, hk2, hY, hF3⟩ := hcut
    have HY := Lib.hid hY; have HF3 := Lib.hid hF3; have HfF := Lib.hid hfF
    clear hY hF3 hfF HF hlt2
    have HS := Lib.hid (show ∀ w', Ext wc w' → (w'.cell? ⟨w.heap.size, 0, none⟩ = some (.string m) ∧ w'.cell? ⟨w.heap.size, 2, none⟩ = some (.bool ex) ∧ w'.cell? ⟨gS, 0, none⟩ = some (.bool ex) ∧ w'.cell? ⟨gS, 1, none⟩ = some (.bool ht) ∧ w'.cell? ⟨gS, 2, none⟩ = some (.bool hm) ∧ w'.cell? ⟨gS, 3, none⟩ = some (.bool tw) ∧ w'.cell? ⟨gS, 4, none⟩ = some (.string tt) ∧ w'.cell? ⟨gS, 5, none⟩ = some (.int .i64 md)) from fun w' h => ⟨(HC3.out _ (HF3.out.trans h)).1.1, (HC3.out _ (HF3.out.trans h)).1.2.2.1, (HY.out.ext h).cell 0, (HY.out.ext h).cell 1, (HY.out.ext h).cell 2, (HY.out.ext h).cell 3, (HY.out.ext h).cell 4, (HY.out.ext h).cell 5⟩)
    have HGc := Lib.hid (fun w' (h : Ext wc w') => HG.out _ (HF3.out.trans h))
    have HEc := Lib.hid (HE2.out.trans HF3.out)
    obtain ⟨Hr, H2r⟩ := evF_range m fs ⟨ex, ht, hm, tw, tt, md⟩
    have HV := Lib.hid (fun w' (h : Ext wc w') => val_Evaluate m A2 n k2 fs ⟨ex, ht, hm, tw, tt, md⟩ w' (HfF.out.ext h) (by have := Hn20.out; omega) Hbs.out (by have := Hn20.out; have := Hs3.out; omega) (by have := Hn20.out; have := Hs3.out; omega) (HGc.out _ h))
    generalize evF m fs ⟨ex, ht, hm, tw, tt, md⟩ = E at *
    have Hr := Lib.hid Hr
    have H2r := Lib.hid H2r
    have HfF := HfF
    clear HC3 HY HF3 HE2 HG
    obtain ⟨m0, m2, s0, s1, s2, s3, s4, s5⟩ := HS.out _ (Ext.refl wc)
    go_wp2_with fail
    refine (HV.out _ (Ext.refl _)).mono ?_; rintro e w3 ⟨rfl, hb3⟩
    clear m0 m2 s0 s1 s2 s3 s4 s5
    go_upto_region 5 with fail
    go_cut [49] (fun x wx => x = .bool false ∧ w3 = wx)
    case first =>
      obtain ⟨m0, m2, s0, s1, s2, s3, s4, s5⟩ := HS.out _ hb3
      have H2q := H2r.out
      rcases Hr.out with rfl | rfl | rfl
      · go_wp2_with fail
        go_meet
        exact ⟨rfl, rfl⟩
      · have h := H2q rfl
        clear H2q
        unfold isR at h
        cases hg1 : (m.toList == [71, 69, 84])
        · rw [hg1, Bool.false_or] at h
          go_wp2_with fail
          go_meet
          exact ⟨rfl, rfl⟩
        · clear h
          go_wp2_with fail
          go_meet
          exact ⟨rfl, rfl⟩
      · clear H2q
        go_wp2_with fail
        go_meet
        exact ⟨rfl, rfl⟩
    case rest =>
    obtain ⟨rfl, rfl⟩ := hcut
    clear Hr H2r HV
    go_wp2_with fail
    have hNm : RdS (w3.alloc (.cells #[.string ⟨#[105, 102, 45, 109, 97, 116, 99, 104]⟩, .string ⟨#[105, 102, 45, 110, 111, 110, 101, 45, 109, 97, 116, 99, 104]⟩, .string ⟨#[105, 102, 45, 109, 111, 100, 105, 102, 105, 101, 100, 45, 115, 105, 110, 99, 101]⟩, .string ⟨#[105, 102, 45, 117, 110, 109, 111, 100, 105, 102, 105, 101, 100, 45, 115, 105, 110, 99, 101]⟩] 9)) (some ⟨w3.heap.size, 0, none⟩) 4 nmL4 := Rd.lit w3 #[.string ⟨#[105, 102, 45, 109, 97, 116, 99, 104]⟩, .string ⟨#[105, 102, 45, 110, 111, 110, 101, 45, 109, 97, 116, 99, 104]⟩, .string ⟨#[105, 102, 45, 109, 111, 100, 105, 102, 105, 101, 100, 45, 115, 105, 110, 99, 101]⟩, .string ⟨#[105, 102, 45, 117, 110, 109, 111, 100, 105, 102, 105, 101, 100, 45, 115, 105, 110, 99, 101]⟩] 9 rfl 1 4 rfl
    have hE4 := hb3.alloc (.cells #[.string ⟨#[105, 102, 45, 109, 97, 116, 99, 104]⟩, .string ⟨#[105, 102, 45, 110, 111, 110, 101, 45, 109, 97, 116, 99, 104]⟩, .string ⟨#[105, 102, 45, 109, 111, 100, 105, 102, 105, 101, 100, 45, 115, 105, 110, 99, 101]⟩, .string ⟨#[105, 102, 45, 117, 110, 109, 111, 100, 105, 102, 105, 101, 100, 45, 115, 105, 110, 99, 101]⟩] 9)
    have hf4 : RdF (w3.alloc (.cells #[.string ⟨#[105, 102, 45, 109, 97, 116, 99, 104]⟩, .string ⟨#[105, 102, 45, 110, 111, 110, 101, 45, 109, 97, 116, 99, 104]⟩, .string ⟨#[105, 102, 45, 109, 111, 100, 105, 102, 105, 101, 100, 45, 115, 105, 110, 99, 101]⟩, .string ⟨#[105, 102, 45, 117, 110, 109, 111, 100, 105, 102, 105, 101, 100, 45, 115, 105, 110, 99, 101]⟩] 9)) A2 n (bareTo fs 0) := HfF.out.ext hE4
    generalize (w3.alloc (.cells #[.string ⟨#[105, 102, 45, 109, 97, 116, 99, 104]⟩, .string ⟨#[105, 102, 45, 110, 111, 110, 101, 45, 109, 97, 116, 99, 104]⟩, .string ⟨#[105, 102, 45, 109, 111, 100, 105, 102, 105, 101, 100, 45, 115, 105, 110, 99, 101]⟩, .string ⟨#[105, 102, 45, 117, 110, 109, 111, 100, 105, 102, 105, 101, 100, 45, 115, 105, 110, 99, 101]⟩] 9)) = w4 at *
    generalize w3.heap.size = bN at *
    have HE4 := Lib.hid hE4
    have HNm := Lib.hid hNm
    have Hf4 := Lib.hid hf4
    clear hE4 hNm hf4 hb3
    go_loopw [3, 52] (fun f i wr => ∃ k A' n' k', k ≤ 4 ∧ i = .int .i64 (k : Nat) ∧ f = .slice A' n' k' ∧ RdF wr A' n' (bareTo fs k) ∧ n' ≤ k' ∧ Ext w4 wr) (fun _ i _ => 4 - (intOf i).toNat)
    case atStart => exact ⟨0, A2, n, k2, by omega, rfl, rfl, Hf4.out, hk2, Ext.refl _⟩
    case round =>
      obtain ⟨k, A', n', k', hk, rfl, rfl, hfr, hkr, hbr⟩ := hrel
      have Hn' := Lib.hid (show n' ≤ 20 by have := hfr.lenF; have := bareTo_len fs k hk; have := Hn20.out; have := Hl.out; omega)
      by_cases hlt : k < 4
      · have HSt := Lib.hid (bare_step fs hlt)
        have Hnm := Lib.hid (nm_small hlt)
        obtain ⟨b, o, hbo, hcn⟩ := (HNm.out.ext hbr).atS (show k < nmL4.length from hlt)
        injection hbo with hbo
        injection hbo with h1 h2
        subst h1; subst h2
        rw [Nat.zero_add] at hcn
        generalize nmL4[k] = nm at *
        go_wp2_with fail
        refine (field_Remove A' n' k' _ nm _ hfr (by have := Hn'.out; omega) (by have := Hnm.out; omega) ((bareTo_bsz Hbs.out k).mono (by decide))).mono ?_; rintro e w5 ⟨A5, n5, k5, rfl, hf5, hk5, hb5, _⟩
        go_wp2_with fail
        go_roundw
        case rel => exact ⟨k + 1, A5, n5, k5, by omega, by go_num, rfl, by rw [← HSt.out]; exact hf5, hk5, hbr.trans hb5⟩
        case measure => simp [intOf]; omega
      · obtain rfl : k = 4 := by omega
        clear hlt hk
        have hfB : RdF wr A' n' (bareS fs) := hfr
        have HfB := Lib.hid hfB
        have hbd := bare_bd fs
        have Hbd := Lib.hid (show n' ≤ 20 ∧ (bareS fs).length = n' ∧ sumF (bareS fs) ≤ 3000 from ⟨Hn'.out, hfB.lenF, by have := Hs3.out; omega⟩)
        have HEr := Lib.hid (HE4.out.trans hbr)
        have HBare := Lib.hid (bare_ok fs)
        clear hfr hfB hbd hbr Hn' HNm Hf4 HfF Hs3 Hbs HE4 Hn20 hn20
        have HSr := Lib.hid (fun w' (h : Ext wr w') => HS.out w' (HEr.out.trans h))
        go_wp2_with fail
        have hE := (Ext.refl wr).drew
        have hs6 : sumF (bareS fs ++ [(lowS imN, starV)]) ≤ 3020 := by rw [sumF_app, sum_im]; have := Hbd.out; omega
        have HV1 := Lib.hid (fun (A6 : Option Addr) (k6 : Nat) w5 (hf6 : RdF w5 A6 (n' + 1) (bareS fs ++ [(lowS imN, starV)])) w' (h5 : Ext wr w5) (h : Ext w5 w') => val_Evaluate m A6 (n' + 1) k6 _ ⟨ex, ht, hm, tw, tt, md⟩ w' (hf6.ext h) (by have := Hbd.out; omega) ((bsz_of_sum _).mono (by omega)) (by have := Hbd.out; omega) (by have := Hbd.out; omega) (HGc.out _ (HEr.out.trans (h5.trans h))))
        clear hs6
        rw [evF_im m ⟨ex, ht, hm, tw, tt, md⟩ HBare.out] at HV1
        have hs6 : sumF (bareS fs ++ [(lowS inmN, starB)]) ≤ 3020 := by rw [sumF_app, sum_inm]; have := Hbd.out; omega
        have HV2 := Lib.hid (fun (A6 : Option Addr) (k6 : Nat) w5 (hf6 : RdF w5 A6 (n' + 1) (bareS fs ++ [(lowS inmN, starB)])) w' (h5 : Ext wr w5) (h : Ext w5 w') => val_Evaluate m A6 (n' + 1) k6 _ ⟨ex, ht, hm, tw, tt, md⟩ w' (hf6.ext h) (by have := Hbd.out; omega) ((bsz_of_sum _).mono (by omega)) (by have := Hbd.out; omega) (by have := Hbd.out; omega) (HGc.out _ (HEr.out.trans (h5.trans h))))
        clear hs6
        rw [evF_inm m ⟨ex, ht, hm, tw, tt, md⟩ HBare.out] at HV2
        have HV3 := Lib.hid (fun w' (h : Ext wr w') => val_Evaluate m A' n' k' _ ⟨ex, ht, hm, tw, tt, md⟩ w' (HfB.out.ext h) (by have := Hbd.out; omega) ((bsz_of_sum _).mono (by have := Hbd.out; omega)) (by have := Hbd.out; omega) (by have := Hbd.out; omega) (HGc.out _ (HEr.out.trans h)))
        rw [evF_bare m ⟨ex, ht, hm, tw, tt, md⟩ HBare.out] at HV3
        have hq1 := eq1_if ex
        have hq2 := eq1_if' ex (isR m)
        generalize (if (⟨ex, ht, hm, tw, tt, md⟩ : St).ex = true then (1 : Int) else 3) = X1 at *
        generalize (if (⟨ex, ht, hm, tw, tt, md⟩ : St).ex = true then (if isR m = true then (2 : Int) else 3) else 1) = X2 at *
        have hx1 : (X1 == 1) = ex := hq1
        have hx2 : (X2 == 1) = !ex := hq2
        have Hx1 := Lib.hid hx1
        have Hx2 := Lib.hid hx2
        clear hq1 hq2 hx1 hx2
        refine wp_region_held_drew (S := (fun w' => w'.cell? ⟨w.heap.size, 0, none⟩ = some (.string m) ∧ w'.cell? ⟨w.heap.size, 2, none⟩ = some (.bool ex) ∧ w'.cell? ⟨gS, 0, none⟩ = some (.bool ex) ∧ w'.cell? ⟨gS, 1, none⟩ = some (.bool ht) ∧ w'.cell? ⟨gS, 2, none⟩ = some (.bool hm) ∧ w'.cell? ⟨gS, 3, none⟩ = some (.bool tw) ∧ w'.cell? ⟨gS, 4, none⟩ = some (.string tt) ∧ w'.cell? ⟨gS, 5, none⟩ = some (.int .i64 md))) (by kernel_rfl) ?_ (fun hHeld => ?_)
        · (try dsimp only); exact HSr.out _ hE
        refine wpAnyH_take (i := 0) (oi := { dst := some 60, op := _, type := _, pos := _, after := _, guard := _ }) (v := ?_) rfl (by kernel_rfl) (by kernel_rfl) (by kernel_rfl) (fun _ _ _ h => h) (Or.inl ⟨by rfl, ?_⟩) (by assumption) ?_
        rotate_left
        · (intro w hSw; (try dsimp only at hSw); go_simp; (try with_reducible rfl))
        (try simp only [Act.put, List.setIfInBounds_toArray, List.set_cons_zero, List.set_cons_succ])
        refine wpAnyH_take (i := 1) (oi := { dst := some 61, op := _, type := _, pos := _, after := _, guard := _ }) (v := ?_) rfl (by kernel_rfl) (by kernel_rfl) (by kernel_rfl) (fun _ _ _ h => h) (Or.inl ⟨by rfl, ?_⟩) (by assumption) ?_
        rotate_left
        · (intro w hSw; (try dsimp only at hSw); go_simp; (try with_reducible rfl))
        (try simp only [Act.put, List.setIfInBounds_toArray, List.set_cons_zero, List.set_cons_succ])
        refine wpAnyH_take (i := 2) (oi := { dst := some 62, op := _, type := _, pos := _, after := _, guard := _ }) (v := ?_) rfl (by kernel_rfl) (by kernel_rfl) (by kernel_rfl) (fun _ _ _ h => h) (Or.inl ⟨by rfl, ?_⟩) (by assumption) ?_
        rotate_left
        · (intro w hSw; (try dsimp only at hSw); go_simp; (try with_reducible rfl))
        (try simp only [Act.put, List.setIfInBounds_toArray, List.set_cons_zero, List.set_cons_succ])
        refine wpAnyH_take (i := 4) (oi := { dst := some 64, op := _, type := _, pos := _, after := _, guard := _ }) (v := ?_) rfl (by kernel_rfl) (by kernel_rfl) (by kernel_rfl) (fun _ _ _ h => h) (Or.inl ⟨by rfl, ?_⟩) (by assumption) ?_
        rotate_left
        · (intro w hSw; (try dsimp only at hSw); go_simp; (try with_reducible rfl))
        (try simp only [Act.put, List.setIfInBounds_toArray, List.set_cons_zero, List.set_cons_succ])
        refine wpAnyH_ready (rs := [3]) (by kernel_rfl) (by simp) ?_
        refine AllReadyH.cons (o := { dst := some 63, op := _, type := _, pos := _, after := _, guard := _ }) rfl (fun K hK => ?_) AllReadyH.nil
        go_simp
        refine (field_Add A' n' k' _ imN starV _ (HfB.out.ext hE) (by have := Hbd.out; omega) (by decide)).mono ?_; rintro e w6 ⟨A6, k6, rfl, hf6, hk6, hb6, _⟩; have HA := Lib.hid hf6; have HB := Lib.hid (hE.trans hb6); have hE := Ext.refl w6; clear hf6 hk6 hb6
        try go_wp2_with fail
        refine hK.out _ _ ?_ (fun hHeld => ?_)
        · (try dsimp only); exact HSr.out _ (HB.out.trans hE)
        clear hK K
        (try simp only [Act.put, List.setIfInBounds_toArray, List.set_cons_zero, List.set_cons_succ])
        refine wpAnyH_ready (rs := [5]) (by kernel_rfl) (by simp) ?_
        refine AllReadyH.cons (o := { dst := some 65, op := _, type := _, pos := _, after := _, guard := _ }) rfl (fun K hK => ?_) AllReadyH.nil
        go_simp
        refine (HV1.out A6 k6 _ HA.out _ HB.out hE).mono ?_; rintro e w6b ⟨rfl, hb7⟩; replace hE := hE.trans hb7; clear hb7
        try go_wp2_with fail
        refine hK.out _ _ ?_ (fun hHeld => ?_)
        · (try dsimp only); exact HSr.out _ (HB.out.trans hE)
        clear hK K
        (try simp only [Act.put, List.setIfInBounds_toArray, List.set_cons_zero, List.set_cons_succ])
        refine wpAnyH_take (i := 6) (oi := { dst := some 8, op := _, type := _, pos := _, after := _, guard := _ }) (v := ?_) rfl (by kernel_rfl) (by kernel_rfl) (by kernel_rfl) (fun _ _ _ h => h) (Or.inl ⟨by rfl, ?_⟩) (by assumption) ?_
        rotate_left
        · (intro w hSw; (try dsimp only at hSw); go_simp; (try with_reducible rfl))
        (try simp only [Act.put, List.setIfInBounds_toArray, List.set_cons_zero, List.set_cons_succ])
        refine wpAnyH_done (by kernel_rfl) ?_ _
        have hE6 := Lib.hid (HB.out.trans hE)
        clear hE HA HB hHeld HV1
        go_wp2_with fail
        have hE := hE6.out.drew
        refine wp_region_held_drew (S := (fun w' => w'.cell? ⟨w.heap.size, 0, none⟩ = some (.string m) ∧ w'.cell? ⟨w.heap.size, 2, none⟩ = some (.bool ex) ∧ w'.cell? ⟨gS, 0, none⟩ = some (.bool ex) ∧ w'.cell? ⟨gS, 1, none⟩ = some (.bool ht) ∧ w'.cell? ⟨gS, 2, none⟩ = some (.bool hm) ∧ w'.cell? ⟨gS, 3, none⟩ = some (.bool tw) ∧ w'.cell? ⟨gS, 4, none⟩ = some (.string tt) ∧ w'.cell? ⟨gS, 5, none⟩ = some (.int .i64 md))) (by kernel_rfl) ?_ (fun hHeld => ?_)
        · (try dsimp only); exact HSr.out _ hE
        refine wpAnyH_take (i := 0) (oi := { dst := some 66, op := _, type := _, pos := _, after := _, guard := _ }) (v := ?_) rfl (by kernel_rfl) (by kernel_rfl) (by kernel_rfl) (fun _ _ _ h => h) (Or.inl ⟨by rfl, ?_⟩) (by assumption) ?_
        rotate_left
        · (intro w hSw; (try dsimp only at hSw); go_simp; (try with_reducible rfl))
        (try simp only [Act.put, List.setIfInBounds_toArray, List.set_cons_zero, List.set_cons_succ])
        refine wpAnyH_take (i := 1) (oi := { dst := some 67, op := _, type := _, pos := _, after := _, guard := _ }) (v := ?_) rfl (by kernel_rfl) (by kernel_rfl) (by kernel_rfl) (fun _ _ _ h => h) (Or.inl ⟨by rfl, ?_⟩) (by assumption) ?_
        rotate_left
        · (intro w hSw; (try dsimp only at hSw); go_simp; (try with_reducible rfl))
        (try simp only [Act.put, List.setIfInBounds_toArray, List.set_cons_zero, List.set_cons_succ])
        refine wpAnyH_take (i := 2) (oi := { dst := some 68, op := _, type := _, pos := _, after := _, guard := _ }) (v := ?_) rfl (by kernel_rfl) (by kernel_rfl) (by kernel_rfl) (fun _ _ _ h => h) (Or.inl ⟨by rfl, ?_⟩) (by assumption) ?_
        rotate_left
        · (intro w hSw; (try dsimp only at hSw); go_simp; (try with_reducible rfl))
        (try simp only [Act.put, List.setIfInBounds_toArray, List.set_cons_zero, List.set_cons_succ])
        refine wpAnyH_take (i := 4) (oi := { dst := some 70, op := _, type := _, pos := _, after := _, guard := _ }) (v := ?_) rfl (by kernel_rfl) (by kernel_rfl) (by kernel_rfl) (fun _ _ _ h => h) (Or.inl ⟨by rfl, ?_⟩) (by assumption) ?_
        rotate_left
        · (intro w hSw; (try dsimp only at hSw); go_simp; (try with_reducible rfl))
        (try simp only [Act.put, List.setIfInBounds_toArray, List.set_cons_zero, List.set_cons_succ])
        refine wpAnyH_ready (rs := [3]) (by kernel_rfl) (by simp) ?_
        refine AllReadyH.cons (o := { dst := some 69, op := _, type := _, pos := _, after := _, guard := _ }) rfl (fun K hK => ?_) AllReadyH.nil
        go_simp
        refine (field_Add A' n' k' _ inmN starB _ (HfB.out.ext hE) (by have := Hbd.out; omega) (by decide)).mono ?_; rintro e w7 ⟨A6, k6, rfl, hf6, hk6, hb6, _⟩; have HA := Lib.hid hf6; have HB := Lib.hid (hE.trans hb6); have hE := Ext.refl w7; clear hf6 hk6 hb6
        try go_wp2_with fail
        refine hK.out _ _ ?_ (fun hHeld => ?_)
        · (try dsimp only); exact HSr.out _ (HB.out.trans hE)
        clear hK K
        (try simp only [Act.put, List.setIfInBounds_toArray, List.set_cons_zero, List.set_cons_succ])
        refine wpAnyH_ready (rs := [5]) (by kernel_rfl) (by simp) ?_
        refine AllReadyH.cons (o := { dst := some 71, op := _, type := _, pos := _, after := _, guard := _ }) rfl (fun K hK => ?_) AllReadyH.nil
        go_simp
        refine (HV2.out A6 k6 _ HA.out _ HB.out hE).mono ?_; rintro e w7b ⟨rfl, hb7⟩; replace hE := hE.trans hb7; clear hb7
        try go_wp2_with fail
        refine hK.out _ _ ?_ (fun hHeld => ?_)
        · (try dsimp only); exact HSr.out _ (HB.out.trans hE)
        clear hK K
        (try simp only [Act.put, List.setIfInBounds_toArray, List.set_cons_zero, List.set_cons_succ])
        refine wpAnyH_take (i := 6) (oi := { dst := some 9, op := _, type := _, pos := _, after := _, guard := _ }) (v := ?_) rfl (by kernel_rfl) (by kernel_rfl) (by kernel_rfl) (fun _ _ _ h => h) (Or.inl ⟨by rfl, ?_⟩) (by assumption) ?_
        rotate_left
        · (intro w hSw; (try dsimp only at hSw); go_simp; (try with_reducible rfl))
        (try simp only [Act.put, List.setIfInBounds_toArray, List.set_cons_zero, List.set_cons_succ])
        refine wpAnyH_done (by kernel_rfl) ?_ _
        have hE7 := Lib.hid (HB.out.trans hE)
        clear hE HA HB hHeld HV2
        obtain ⟨m0, m2, s0, s1, s2, s3, s4, s5⟩ := HSr.out _ hE7.out
        go_wp2_with fail
        refine (HV3.out _ hE7.out).mono ?_; rintro e w8 ⟨rfl, hb8⟩
        clear m0 m2 s0 s1 s2 s3 s4 s5
        obtain ⟨m0, m2, s0, s1, s2, s3, s4, s5⟩ := HSr.out _ (hE7.out.trans hb8)
        have hx1 := Hx1.out
        have hx2 := Hx2.out
        cases ex
        all_goals
          go_wp2_with fail
          go_ret
          exact ⟨rfl, HEc.out.trans (HEr.out.trans (hE7.out.trans hb8))⟩
end Go.Proofs.YtghaopeijncgaaaDoor
