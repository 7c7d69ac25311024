
/- The walk of LifetimeFirst: it returns true. -/
import Derived.Test.YtjacgdjnocpodaaDoorL14d
import Derived.Test.YtjacgdjnocpodaaDoorFm
namespace Go.Proofs.YtjacgdjnocpodaaDoor
open Go.RowKit

theorem step_join {l : List ByteArray} (h : ∀ y ∈ l, plE y) (d : D) : stepV d (joinS l) = l.foldl stepD d := by
  by_cases hne : l = []
  · subst hne
    unfold stepV
    rw [show (partsS (joinS []) 44).isSome = true by decide +kernel, show itemsS (joinS []) = [] by decide +kernel]; rfl
  · unfold stepV
    rw [parts_join h hne, items_join h hne]; rfl
theorem step_fmt (d x : D) : stepV d (fmtD x) = (elD (nmD x)).foldl stepD d := step_join (pl_D _) d
def xA (a : Int) : D := { noneD with n0 := a }
def xS (a : Int) : D := { noneD with n1 := a }
theorem nm_xA {a : Int} (h0 : 0 ≤ a) (h1 : a ≤ 65535) : nmD (xA a) = xA a := by
  have h : nmT a = a := by unfold nmT; omega
  unfold nmD xA noneD
  simp only [h]
  rfl
theorem nm_xS {a : Int} (h0 : 0 ≤ a) (h1 : a ≤ 65535) : nmD (xS a) = xS a := by
  have h : nmT a = a := by unfold nmT; omega
  unfold nmD xS noneD
  simp only [h]
  rfl
theorem ccD_dat (a b c : Int) : ccD (datF a b c) = noneD := by unfold ccD; rw [all_cc_dat]; rfl
theorem elT_no (w : List UInt8) : elT w (-1) = [] := rfl
theorem el_xA (a : Int) : elD (xA a) = elT wMA a := by
  unfold elD xA noneD
  simp only [elB, Bool.false_eq_true, if_false, elT_no, List.append_nil, List.nil_append]
theorem el_xS (a : Int) : elD (xS a) = elT wSM a := by
  unfold elD xS noneD
  simp only [elB, Bool.false_eq_true, if_false, elT_no, List.append_nil, List.nil_append]
def mrN : ByteArray := ⟨#[120, 45, 109, 111, 114, 101, 61, 49]⟩
theorem step_more (d : D) : stepV d mrN = d := by
  rw [stepV_one (by decide +kernel) (by decide +kernel)]
  unfold stepD; rw [show kindE (lowS (eqName mrN)) = 13 by decide +kernel]; rfl
section
variable {a b c n m : Int} (h0 : 0 ≤ n) (h1 : n ≤ 65535)
include h0 h1
theorem cc_first : ccD (datF a b c ++ [(lowS ccN, fmtD (xA n))]) = xA n := by
  rw [ccD_add, ccD_dat, step_fmt, nm_xA h0 h1, fold_el (nm_xA h0 h1)]
theorem of_first (st : Int) : ofS st (datF a b c ++ [(lowS ccN, fmtD (xA n))]) = (1000 * n, 2) := by
  have h := cc_first (a := a) (b := b) (c := c) h0 h1
  generalize datF a b c ++ [(lowS ccN, fmtD (xA n))] = L at h ⊢
  unfold ofS
  rw [h, show (xA n).n1 = -1 from rfl, show (xA n).n0 = n from rfl, if_neg (by decide), if_pos h0]
theorem of_more (st : Int) : ofS st ((datF a b c ++ [(lowS ccN, fmtD (xA n))]) ++ [(lowS ccN, mrN)]) = (1000 * n, 2) := by
  have h : ccD ((datF a b c ++ [(lowS ccN, fmtD (xA n))]) ++ [(lowS ccN, mrN)]) = xA n := by rw [ccD_add, step_more, cc_first h0 h1]
  generalize (datF a b c ++ [(lowS ccN, fmtD (xA n))]) ++ [(lowS ccN, mrN)] = L at h ⊢
  unfold ofS
  rw [h, show (xA n).n1 = -1 from rfl, show (xA n).n0 = n from rfl, if_neg (by decide), if_pos h0]
theorem of_shared (st : Int) (m0 : 0 ≤ m) (m1 : m ≤ 65535) : ofS st ((datF a b c ++ [(lowS ccN, fmtD (xA n))]) ++ [(lowS ccN, fmtD (xS m))]) = (1000 * m, 1) := by
  have he : elD (xS m) = [elV wSM m] := by
    rw [el_xS]; unfold elT
    rw [if_neg (by omega), if_neg (by rintro ⟨h, _⟩; revert h; decide)]
  have hc : ccD ((datF a b c ++ [(lowS ccN, fmtD (xA n))]) ++ [(lowS ccN, fmtD (xS m))]) = { xA n with n1 := m } := by
    rw [ccD_add, cc_first h0 h1, step_fmt, nm_xS m0 m1, he, List.foldl_cons, List.foldl_nil, step_n1 _ m0 (by omega)]
    show ({ xA n with n1 := lst (-1) m } : D) = _
    rw [lst_none m0]
  generalize (datF a b c ++ [(lowS ccN, fmtD (xA n))]) ++ [(lowS ccN, fmtD (xS m))] = L at hc ⊢
  unfold ofS
  rw [hc]
  show (if 0 ≤ m then ((1000 * m, 1) : Int × Int) else _) = _
  rw [if_pos m0]
end
theorem fmt_xA_size {n : Int} (h0 : 0 ≤ n) (h1 : n ≤ 65535) : fmtD (xA n) = elV wMA n := by
  have he : elD (xA n) = [elV wMA n] := by
    rw [el_xA]; unfold elT
    rw [if_neg (by omega), if_neg (by rintro ⟨h, _⟩; revert h; decide)]
  unfold fmtD
  rw [nm_xA h0 h1, he]
  apply bytes_ext
  rw [join_list]
  simp [tailL]
theorem fmt_xS_size {n : Int} (h0 : 0 ≤ n) (h1 : n ≤ 65535) : fmtD (xS n) = elV wSM n := by
  have he : elD (xS n) = [elV wSM n] := by
    rw [el_xS]; unfold elT
    rw [if_neg (by omega), if_neg (by rintro ⟨h, _⟩; revert h; decide)]
  unfold fmtD
  rw [nm_xS h0 h1, he]
  apply bytes_ext
  rw [join_list]
  simp [tailL]

theorem sumF_oneD (n v : ByteArray) : sumF [(lowS n, v)] = n.size + v.size := by simp [sumF, lowS_size]
theorem elV_size {w : List UInt8} {n : Int} (hw : w.length ≤ 30) (hn : n ≤ 2147483647) : (elV w n).size ≤ 51 := by
  have := dec_size hn
  unfold elV
  rw [ByteArray.size_append, ByteArray.size_append, mkS_size, show (⟨#[61]⟩ : ByteArray).size = 1 from rfl]
  omega
theorem dArr_xA (a : Int) : dArr (xA a) = #[.bool false, .bool false, .bool false, .bool false, .bool false, .bool false, .int .i64 a, .int .i64 (-1), .int .i64 (-1), .int .i64 (-1), .int .i64 (-1), .int .i64 (-1)] := rfl
set_option maxHeartbeats 8000000 in
set_option maxRecDepth 100000 in
theorem first_walk (s g c p q st : Int) (w : World) (hp0 : 0 ≤ p) (hp1 : p ≤ 65535) (hq0 : 0 ≤ q) (hq1 : q ≤ 65535) (hg : GlH w) (hgl : Gl w) (hpw : GlP w) :
    Calls Tryd.prog 8 #[.agg #[.int .i64 s, .int .i64 g, .int .i64 c], .agg #[.int .u16 p, .int .u16 q], .int .i64 st] w fun e w' => e = .returned (.bool true) ∧ Ext w w' := by
  have hE0 := ((Ext.refl w).alloc (.cells #[.int .i64 s, .int .i64 g, .int .i64 c] 35)).alloc (.cells #[.int .u16 p, .int .u16 q] 49)
  have hB := (Blk.new w 35 #[.int .i64 s, .int .i64 g, .int .i64 c]).alloc (.cells #[.int .u16 p, .int .u16 q] 49)
  have hU := Blk.new (w.alloc (.cells #[.int .i64 s, .int .i64 g, .int .i64 c] 35)) 49 #[.int .u16 p, .int .u16 q]
  rw [World.size_alloc] at hU
  have b0 := hB.cell 0
  have b1 := hB.cell 1
  have b2 := hB.cell 2
  have HE := Lib.hid hE0
  have HU := Lib.hid hU
  clear hB hU hE0
  go_enter Tryd.func8, Tryd.ntmps8
  go_wp2_with fail
  refine (law14_dated s g c _ (hg.ext HE.out)).mono ?_; rintro e w1 ⟨A, k, S, G, C, rfl, hr, hk, hbd, hb1⟩
  have h1 := HE.out.trans hb1
  have HU1 := Lib.hid (HU.out.ext hb1)
  clear b0 b1 b2 HU
  obtain ⟨s0, s1, g0, g1, c0, c1⟩ := hbd
  have hsum := dat_sum (a := S) (b := S + G) (c := S - C) (by omega) (by omega) (by omega)
  have HP1 := Lib.hid (of_first (a := S) (b := S + G) (c := S - C) hp0 hp1 st)
  have HP2 := Lib.hid (of_more (a := S) (b := S + G) (c := S - C) hp0 hp1 st)
  have HP3 := Lib.hid (of_shared (a := S) (b := S + G) (c := S - C) hp0 hp1 st hq0 hq1)
  have hf1 := fmt_xA_size hp0 hp1
  have hf2 := fmt_xS_size hq0 hq1
  have hz1 : (fmtD (xA p)).size ≤ 51 := by rw [hf1]; exact elV_size (by decide) (by omega)
  have hz2 : (fmtD (xS q)).size ≤ 51 := by rw [hf2]; exact elV_size (by decide) (by omega)
  clear hf1 hf2
  have HF1 := Lib.hid (dir_Format (xA p))
  have HF2 := Lib.hid (dir_Format (xS q))
  generalize datF S (S + G) (S - C) = FS at *
  generalize fmtD (xA p) = f1 at *
  generalize fmtD (xS q) = f2 at *
  have Hs := Lib.hid (⟨hsum, hz1, hz2⟩ : _ ∧ _ ∧ _)
  clear hsum hz1 hz2 s0 s1 g0 g1 c0 c1
  go_wp2_with fail
  refine (law14_awake _ (hg.ext h1) (hgl.ext h1)).mono ?_; rintro e w2 ⟨rfl, hb2⟩
  have h2 := h1.trans hb2
  go_wp2_with fail
  refine (dir_None _).mono ?_; rintro e w3 ⟨rfl, hb3⟩
  have h3 := h2.trans hb3
  have HU3 := Lib.hid ((HU1.out.ext hb2).ext hb3)
  clear HU1
  have HU4 := Lib.hid (show ∀ w4, ExtB w3.heap.size (w3.alloc (.cells (dArr zeroD) 51)) w4 → Blk w4 (w.heap.size + 1) 49 #[.int .u16 p, .int .u16 q] from fun w4 hx => (HU3.out.alloc _).grown hx (by have := HU3.out.lt; intro e; injection e with e; omega))
  have hlt3 := HU3.out.lt
  go_wp2_with (first
    | (refine wpList_storeB rfl 51 (.tmp 11) (.tmp 29) rfl rfl w3.heap.size _ rfl rfl 51 _ (Blk.new w3 _ _) infoDp rfl (dArr_one noneD) ?_; intro w4 hB4 hx4; have u0 := (HU4.out _ hx4).cell 0; have hfz := hB4.frozen; have hc6 := hB4.cell 6; have hB5 : Blk (w4.setCell ⟨w3.heap.size, 6, none⟩ (.int .i64 p)) w3.heap.size 51 (dArr (xA p)) := hB4.set_ 6 (.int .i64 p))
    | (refine wpList_loadB rfl 51 (.tmp 11) rfl w3.heap.size rfl 51 _ hB5 _ Tryd.underlying51 infoDp ?_))
  have h4 : Ext w (w4.setCell ⟨w3.heap.size, 6, none⟩ (.int .i64 p)) := (h3.alloc _).growB (hx4.set_ 6 _) h3.size
  have h34 : Ext w3 (w4.setCell ⟨w3.heap.size, 6, none⟩ (.int .i64 p)) := ((Ext.refl w3).alloc _).growB (hx4.set_ 6 _) (Nat.le_refl _)
  have HB5 := Lib.hid hB5
  have HU5 := Lib.hid ((HU4.out _ hx4).far (p := ⟨w3.heap.size, 6, none⟩) (by show w.heap.size + 1 ≠ w3.heap.size; omega) (.int .i64 p))
  have HR5 := Lib.hid (hr.ext ((hb2.trans hb3).trans h34))
  have HH := Lib.hid h4
  clear u0 hfz hc6 hB5 HU4 HU3 hx4 hB4 h4 h34 h3 h2 h1 hb1 hb2 hb3
  generalize w4.setCell ⟨w3.heap.size, 6, none⟩ (.int .i64 p) = w5 at *
  generalize hbx : w3.heap.size = bx at *
  refine (HF1.out _ (hpw.ext HH.out)).mono ?_; rintro e w6 ⟨rfl, hb6⟩
  have h6 := HH.out.trans hb6
  go_wp2_with fail
  refine (field_Add A 3 k FS ccN f1 _ (HR5.out.ext hb6) (by decide) (by decide)).mono ?_; rintro e w7 ⟨A7, k7, rfl, hf7, hk7, hb7, hown7⟩
  have h7 := h6.trans hb7
  have h57 := hb6.trans hb7
  have hfar := own_far hown7
  have hlt5 := HB5.out.lt
  have hs6 := hb6.size
  have Hfar := Lib.hid (show ∀ a, A7 = some a → a.block ≠ bx from fun a ha => by have := hfar a ha; omega)
  have Hss := Lib.hid (show sumF (FS ++ [(lowS ccN, f1)]) ≤ 1000 by rw [sumF_app14, sumF_oneD]; have := Hs.out; have h9 : ccN.size = 13 := rfl; omega)
  clear hfar hown7 hlt5 hs6
  go_wp2_with fail
  refine (life_Of st A7 4 k7 _ _ hf7 (by decide) ((bsz_of_sumF _).mono (by have := Hss.out; omega)) (hg.ext h7) (by have := Hss.out; omega) (hgl.ext h7)).mono ?_; rintro e w8 ⟨rfl, hb8⟩
  have h8 := h7.trans hb8
  have h58 := h57.trans hb8
  rw [HP1.out, show pairV (1000 * p, 2) = .tuple #[.int .i64 (1000 * p), .int .i64 2] from rfl]
  have u8 := (HU5.out.ext h58).cell 0
  have z1 : (1000 * p != 1000 * p) = false := by simp
  have z2 : (p * 1000 != p * 1000) = false := by simp
  go_wp2_with fail
  refine (field_Add A7 4 k7 _ ccN mrN _ (hf7.ext hb8) (by decide) (by decide)).mono ?_; rintro e w9 ⟨A9, k9, rfl, hf9, hk9, hb9, _⟩
  have h9 := h8.trans hb9
  have h59 := h58.trans hb9
  go_wp2_with fail
  refine (life_Of st A9 5 k9 _ _ hf9 (by decide) ((bsz_of_sumF _).mono (by rw [sumF_app14, sumF_oneD]; have := Hss.out; have h0 : ccN.size = 13 := rfl; have h1 : mrN.size = 8 := rfl; omega)) (hg.ext h9) (by rw [sumF_app14, sumF_oneD]; have := Hss.out; have h0 : ccN.size = 13 := rfl; have h1 : mrN.size = 8 := rfl; omega) (hgl.ext h9)).mono ?_; rintro e wA ⟨rfl, hbA⟩
  have hA := h9.trans hbA
  have h5A := h59.trans hbA
  rw [HP2.out, show pairV (1000 * p, 2) = .tuple #[.int .i64 (1000 * p), .int .i64 2] from rfl]
  go_wp2_with fail
  have HBA := Lib.hid (HB5.out.ext h5A)
  have HUA := Lib.hid (HU5.out.ext h5A)
  have HfA := Lib.hid (hf7.ext ((hb8.trans hb9).trans hbA))
  have HHA := Lib.hid hA
  have hltA := HUA.out.lt
  have hbxA := HBA.out.lt
  have hxle : w.heap.size ≤ bx := by omega
  clear u8 z1 z2 HB5 HU5 HR5 HH h6 h7 h8 h9 hA h57 h58 h59 h5A hb6 hb7 hb8 hb9 hbA hf7 hf9
  have hne : w.heap.size + 1 ≠ bx := by omega
  have HQ := Lib.hid hne
  have hwq : IntKind.i64.wrap q = q := IntWalk.i64_in _ (by omega)
  refine wp_region_held_drew (S := (fun w' => w'.cell? ⟨w.heap.size + 1, 1, none⟩ = some (.int .u16 q))) (by kernel_rfl) ?_ (fun hHeld => ?_)
  · (try dsimp only); exact HUA.out.drew.cell 1
  refine wpAnyH_take (i := 0) (oi := { dst := some 68, op := _, type := _, pos := _, after := _, guard := _ }) (v := ?_) rfl (by kernel_rfl) (by kernel_rfl) (by kernel_rfl) (fun _ _ _ h => h) (Or.inl ⟨by rfl, ?_⟩) (by assumption) ?_
  rotate_left
  · (intro w hSw; (try dsimp only at hSw); go_simp; (try with_reducible rfl))
  (try simp only [Act.put, List.setIfInBounds_toArray, List.set_cons_zero, List.set_cons_succ])
  refine wpAnyH_take (i := 1) (oi := { dst := some 69, op := _, type := _, pos := _, after := _, guard := _ }) (v := ?_) rfl (by kernel_rfl) (by kernel_rfl) (by kernel_rfl) (fun _ _ _ h => h) (Or.inl ⟨by rfl, ?_⟩) (by assumption) ?_
  rotate_left
  · (intro w hSw; (try dsimp only at hSw); go_simp; (try with_reducible rfl))
  (try simp only [Act.put, List.setIfInBounds_toArray, List.set_cons_zero, List.set_cons_succ])
  refine wpAnyH_take (i := 2) (oi := { dst := some 70, op := _, type := _, pos := _, after := _, guard := _ }) (v := ?_) rfl (by kernel_rfl) (by kernel_rfl) (by kernel_rfl) (fun _ _ _ h => h) (Or.inl ⟨by rfl, ?_⟩) (by assumption) ?_
  rotate_left
  · (intro w hSw; (try dsimp only at hSw); go_simp; (try with_reducible rfl))
  (try simp only [Act.put, List.setIfInBounds_toArray, List.set_cons_zero, List.set_cons_succ])
  refine wpAnyH_take (i := 3) (oi := { dst := some 71, op := _, type := _, pos := _, after := _, guard := _ }) (v := ?_) rfl (by kernel_rfl) (by kernel_rfl) (by kernel_rfl) (fun _ _ _ h => h) (Or.inl ⟨by rfl, ?_⟩) (by assumption) ?_
  rotate_left
  · (intro w hSw; (try dsimp only at hSw); go_simp; (try with_reducible rfl))
  (try simp only [Act.put, List.setIfInBounds_toArray, List.set_cons_zero, List.set_cons_succ])
  refine wpAnyH_ready (rs := [4]) (by kernel_rfl) (by simp) ?_
  refine AllReadyH.cons (o := { dst := none, op := _, type := _, pos := _, after := _, guard := _ }) rfl (fun K hK => ?_) AllReadyH.nil
  have hfz := HBA.out.drew.frozen; have hcz := HBA.out.drew.cell 6
  go_simp
  skip
  try go_wp2_with fail
  refine hK.out _ _ ?_ (fun hHeld => ?_)
  · (try dsimp only); exact (HUA.out.far (p := ⟨bx, 6, none⟩) hne (.int .i64 (-1))).drew.cell 1
  clear hK K
  (try simp only [Act.put, List.setIfInBounds_toArray, List.set_cons_zero, List.set_cons_succ])
  refine wpAnyH_take (i := 5) (oi := { dst := some 72, op := _, type := _, pos := _, after := _, guard := _ }) (v := ?_) rfl (by kernel_rfl) (by kernel_rfl) (by kernel_rfl) (fun _ _ _ h => h) (Or.inl ⟨by rfl, ?_⟩) (by assumption) ?_
  rotate_left
  · (intro w hSw; (try dsimp only at hSw); go_simp; (try with_reducible rfl))
  (try simp only [Act.put, List.setIfInBounds_toArray, List.set_cons_zero, List.set_cons_succ])
  refine wpAnyH_ready (rs := [6]) (by kernel_rfl) (by simp) ?_
  refine AllReadyH.cons (o := { dst := none, op := _, type := _, pos := _, after := _, guard := _ }) rfl (fun K hK => ?_) AllReadyH.nil
  have hfz := (HBA.out.set_ 6 (.int .i64 (-1))).drew.frozen; have hcz := (HBA.out.set_ 6 (.int .i64 (-1))).drew.cell 7
  go_simp
  skip
  try go_wp2_with fail
  refine hK.out _ _ ?_ (fun hHeld => ?_)
  · (try dsimp only); exact ((HUA.out.far (p := ⟨bx, 6, none⟩) hne (.int .i64 (-1))).far (p := ⟨bx, 7, none⟩) hne (.int .i64 q)).drew.cell 1
  clear hK K
  (try simp only [Act.put, List.setIfInBounds_toArray, List.set_cons_zero, List.set_cons_succ])
  refine wpAnyH_done (by kernel_rfl) ?_ _
  have hBx : Blk _ bx 51 (dArr (xS q)) := ((HBA.out.set_ 6 (.int .i64 (-1))).set_ 7 (.int .i64 q)).drew
  have hGx := (((ExtB.refl bx wA).set_ 6 (.int .i64 (-1))).set_ 7 (.int .i64 q)).trans (ExtB.of (Ext.refl _).drew)
  have hE1 := HHA.out.growB hGx hxle
  have hUx := ((HUA.out.far (p := ⟨bx, 6, none⟩) hne (.int .i64 (-1))).far (p := ⟨bx, 7, none⟩) hne (.int .i64 q)).drew
  have u1 := hUx.cell 1
  have hfx := Rd.growB HfA.out hGx Hfar.out
  have HUx := Lib.hid hUx; have HEx := Lib.hid hE1; have Hfx := Lib.hid hfx
  clear hGx hE1 hUx u1 hfx
  go_wp2_with (first
    | (refine wpList_loadB rfl 51 (.tmp 11) rfl bx rfl 51 _ hBx _ Tryd.underlying51 infoDp ?_))
  refine (HF2.out _ (hpw.ext HEx.out)).mono ?_; rintro e wB ⟨rfl, hbB⟩
  go_wp2_with fail
  refine (field_Add A7 4 k7 _ ccN f2 _ (Hfx.out.ext hbB) (by decide) (by decide)).mono ?_; rintro e wC ⟨AC, kC, rfl, hfC, hkC, hbC, _⟩
  have hC := (HEx.out.trans hbB).trans hbC
  go_wp2_with fail
  refine (life_Of st AC 5 kC _ _ hfC (by decide) ((bsz_of_sumF _).mono (by rw [sumF_app14, sumF_oneD]; have := Hss.out; have := Hs.out; have h0 : ccN.size = 13 := rfl; omega)) (hg.ext hC) (by rw [sumF_app14, sumF_oneD]; have := Hss.out; have := Hs.out; have h0 : ccN.size = 13 := rfl; omega) (hgl.ext hC)).mono ?_; rintro e wD ⟨rfl, hbD⟩
  rw [HP3.out, show pairV (1000 * q, 1) = .tuple #[.int .i64 (1000 * q), .int .i64 1] from rfl]
  have u9 := (HUx.out.ext ((hbB.trans hbC).trans hbD)).cell 1
  have z1 : (1000 * q == 1000 * q) = true := by simp
  have z2 : (q * 1000 == q * 1000) = true := by simp
  go_wp2_with fail
  go_ret
  exact ⟨rfl, hC.trans hbD⟩
end Go.Proofs.YtjacgdjnocpodaaDoor
