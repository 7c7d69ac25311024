/- StorableAuthorizes returns true. StorableMethods returns true. The walks of quaysideref02.Same and field.Same. The walk of storable.Update. StorableKeeps returns true. -/
import Derived.Test.YtphgaommokgfcaaDoorJ3
import Derived.Deep.RegionHeld3
set_option linter.unusedSimpArgs false
set_option linter.unusedVariables false
namespace Go.Proofs.YtphgaommokgfcaaDoor
open Go.RowKit

def auW4 : List ByteArray := [puW, mrW, s9W, prW]
theorem auW4_sz : ∀ v ∈ auW4, v.size ≤ 20 := by decide +kernel
theorem auW4_al (fs : List Fd) : ∀ v ∈ auW4, alF (ccD (fs ++ [(ccN, v)])) = true := by
  obtain ⟨h1, h2, h3, h4⟩ := al_words fs
  intro v hv
  simp only [auW4, List.mem_cons, List.not_mem_nil, or_false] at hv
  rcases hv with rfl | rfl | rfl | rfl
  · exact h1
  · exact h2
  · exact h3
  · exact h4
theorem setCell_sz (w : World) (p : Addr) (v : Value) : (w.setCell p v).heap.size = w.heap.size := by simp [World.setCell]
theorem own_made_at {w : World} {e : TypeId} {b : Nat} (hb : b = w.heap.size) : (w.alloc (.cells #[] e)).ownsRow w.heap.size e 2 (.slice (some ⟨b, 0, none⟩) 0 0) 0 [] := by
  subst hb; exact own_made15 (Ext.refl w)
theorem rem_len15 {w : World} {A B : Option Addr} {n m : Nat} {fs : List Fd} {nm : ByteArray} (h : RdF w A n fs) {w' : World} (h' : RdF w' B m (remS fs nm)) : m ≤ n := by
  have h1 := h.lenF; have h2 := h'.lenF
  have h3 : (remS fs nm).length ≤ fs.length := List.length_filter_le _ _
  omega
theorem rem_sz15 {B : Nat} {fs : List Fd} {nm : ByteArray} (h : Bsz B fs) : Bsz B (remS fs nm) := fun f hf => h f (List.mem_filter.1 (by unfold remS at hf; exact hf)).1
theorem infoCs' : (Tryd.prog.info? 24).map (·.size) = some 4 := by kernel_rfl
set_option maxHeartbeats 16000000 in
set_option maxRecDepth 100000 in
theorem authorizes_walk (me : ByteArray) (Aq : Option Addr) (nq cq : Nat) (rq : List Fd) (Ar : Option Addr) (nr cr : Nat) (rp : List Fd) (st : Int) (x : Int) (w : World) (hfq : RdF w Aq nq rq) (hfr : RdF w Ar nr rp) (hbq : rq.length + sumF rq ≤ 1048576) (hbr : rp.length + sumF rp ≤ 1048576) (hg : GlH w) (hgl : Gl w) (hx0 : 0 ≤ x) (hx1 : x ≤ 255) :
    Calls Tryd.prog 4 #[.agg #[.string me, .slice Aq nq cq, .slice Ar nr cr, .int .i64 st], .int .u8 x] w fun e w' => e = .returned (.bool true) ∧ Ext w w' := by
  obtain ⟨k, hk4, hxk⟩ : ∃ k : Nat, k < 4 ∧ x % 4 = (k : Int) := ⟨(x % 4).toNat, by omega, by omega⟩
  have hrem : x.tmod 4 = (k : Int) := by rw [Int.tmod_eq_emod_of_nonneg hx0]; exact hxk
  have hwr : IntKind.u8.wrap (k : Int) = (k : Int) := IntWalk.u8_in _ (by omega)
  clear hxk
  have hE0 := (Ext.refl w).alloc (.cells #[.string me, .slice Aq nq cq, .slice Ar nr cr, .int .i64 st] 24)
  have HB := Lib.hid (Blk.new w 24 #[.string me, .slice Aq nq cq, .slice Ar nr cr, .int .i64 st])
  have HLg := Lib.hid (fun w' (h : Ext w w') => large_two Aq nq cq rq Ar nr cr rp w' (hfq.ext h) (hfr.ext h) hbq hbr)
  have Hno := Lib.hid (fun h => @large_no Aq nq cq rq Ar nr cr rp w hfq hfr h)
  have HE0 := Lib.hid hE0
  clear hE0 hbq hbr
  go_enter Tryd.func4, Tryd.ntmps4
  go_wp2_with fail
  refine (HLg.out _ HE0.out (w.heap.size + 1) (by rw [World.size_alloc])).mono ?_; rintro e w1 ⟨rfl, hb1⟩
  generalize decide (4000 < tot15 [((Aq, nq, cq), rq), ((Ar, nr, cr), rp)]) = lg at *
  generalize w.alloc (.cells #[.string me, .slice Aq nq cq, .slice Ar nr cr, .int .i64 st] 24) = W0 at *
  have HB1 := Lib.hid (HB.out.ext hb1)
  have hw1 := HE0.out.trans hb1
  cases lg
  rotate_left
  · generalize w.heap.size = b at *
    have s1 : w1.cell? ⟨b, 1, none⟩ = some (.slice Aq nq cq) := HB1.out.cell 1
    have s2 : w1.cell? ⟨b, 2, none⟩ = some (.slice Ar nr cr) := HB1.out.cell 2
    go_wp2_with fail
    refine (HLg.out _ hw1 _ rfl).mono ?_; rintro e w2 ⟨rfl, hb2⟩
    go_wp2_with fail
    go_ret
    exact ⟨rfl, hw1.trans hb2⟩
  obtain ⟨hnq, hnr, hsq, hsr, hzq, hzr⟩ := Hno.out rfl
  have HZ := Lib.hid (⟨hzq.mono (by decide), hzr.mono (by decide)⟩ : Bsz 1048576 rq ∧ Bsz 1048576 rp)
  clear Hno HLg hzq hzr
  go_wp2_with fail
  refine (law15_awake _ (hg.ext hw1) (hgl.ext hw1)).mono ?_; rintro e w2 ⟨rfl, hb2⟩
  have HB2 := Lib.hid (HB1.out.ext hb2)
  have HE2 := Lib.hid (hw1.trans hb2)
  clear HB HB1 HE0 hb1 hb2 hw1
  have hbw := HB2.out.lt
  generalize hbs : w.heap.size = b at *
  have Hwb := Lib.hid (Nat.le_of_eq hbs)
  clear hbs
  have c0 : w2.cell? ⟨b, 0, none⟩ = some (.string me) := HB2.out.cell 0
  have c1 : w2.cell? ⟨b, 1, none⟩ = some (.slice Aq nq cq) := HB2.out.cell 1
  have c2 : w2.cell? ⟨b, 2, none⟩ = some (.slice Ar nr cr) := HB2.out.cell 2
  have c3 : w2.cell? ⟨b, 3, none⟩ = some (.int .i64 st) := HB2.out.cell 3
  have z0 := HB2.out.frozen
  have HBb := Lib.hid (HB2.out.alloc (.cells #[.string me, .slice Aq nq cq, .slice Ar nr cr, .int .i64 st] 24))
  have HBp := Lib.hid (Blk.new w2 24 #[.string me, .slice Aq nq cq, .slice Ar nr cr, .int .i64 st])
  have HEa := Lib.hid (HE2.out.alloc (.cells #[.string me, .slice Aq nq cq, .slice Ar nr cr, .int .i64 st] 24))
  go_wp2_with fail
  generalize w2.alloc (.cells #[.string me, .slice Aq nq cq, .slice Ar nr cr, .int .i64 st] 24) = WA at *
  generalize w2.heap.size = d at *
  have hdw := HBp.out.lt
  have hne : b ≠ d := by omega
  have hne2 : d ≠ b := by omega
  clear HB2 HE2 c0 c1 c2 c3 z0
  have HRm := Lib.hid (ref_Remove Aq nq cq rq auN WA (hfq.ext HEa.out) (by omega) (by decide) (HZ.out.1.mono (by decide)))
  refine HRm.out.mono ?_; rintro e w3 ⟨A3, n3, c3, rfl, hf3, hc3, hb3, hown3⟩
  have hn3 := rem_len15 hfq hf3
  have Hl3 := Lib.hid (own_far hown3)
  have HZ3 := Lib.hid (rem_sz15 (nm := auN) HZ.out.1)
  have hh0 := has_rem rq auN
  clear hown3 HRm
  have HbW := Lib.hid ((HBb.out.ext hb3).far (p := ⟨d, 1, none⟩) hne (.slice A3 n3 c3))
  have HdW := Lib.hid ((HBp.out.ext hb3).set_ 1 (.slice A3 n3 c3))
  have HEW := Lib.hid ((HEa.out.trans hb3).growB ((ExtB.refl d w3).set_ 1 (.slice A3 n3 c3)) (by have := Hwb.out; omega))
  have hf3W := Rd.growB hf3 ((ExtB.refl d w3).set_ 1 (.slice A3 n3 c3)) (fun a ha => by have := Hl3.out a ha; omega)
  have g1 : w3.cell? ⟨d, 1, none⟩ = some (.slice Aq nq cq) := (HBp.out.ext hb3).cell 1
  have g2 : w3.frozen? ⟨d, 1, none⟩ = false := (HBp.out.ext hb3).frozen 1
  have g3 : (w3.setCell ⟨d, 1, none⟩ (.slice A3 n3 c3)).cell? ⟨d, 1, none⟩ = some (.slice A3 n3 c3) := HdW.out.cell 1
  have g4 : ((w3.setCell ⟨d, 1, none⟩ (.slice A3 n3 c3)).alloc (.cells #[] 28)).cell? ⟨d, 1, none⟩ = some (.slice A3 n3 c3) := (HdW.out.alloc (.cells #[] 28)).cell 1
  have hown0 := own_made_at (w := (w3.setCell ⟨d, 1, none⟩ (.slice A3 n3 c3))) (e := 28) (setCell_sz w3 _ _).symm
  have hsW := setCell_sz w3 ⟨d, 1, none⟩ (.slice A3 n3 c3)
  have hsw3 := hb3.size
  have HR3 := Lib.hid hf3W
  have Hlo := Lib.hid (show ∀ a, A3 = some a → b ≠ a.block ∧ d ≠ a.block from fun a ha => by have := Hl3.out a ha; omega)
  generalize hRQ : remS rq auN = RQ at *
  clear hRQ
  clear HBb HBp HEa hf3 hf3W Hl3
  go_wp2_with (first
    | (at_builtin; refine wpList_app _ rfl (.tmp 31) (.tmp 33) 22 rfl (w3.setCell ⟨d, 1, none⟩ (.slice A3 n3 c3)) 28 _ 2 32 Tryd.underlying22 infoRfd rfl (by decide) _ _ _ rfl hown0 A3 n3 c3 (fldCells RQ) rfl (HR3.out.alloc _) (fldCells_one _) ((Ext.refl _).alloc _) (by omega) (by decide) ?_; intro A5 c5 w5 hown5 hb5 hle5; rw [Nat.zero_add] at hown5 hle5 ⊢; rw [List.nil_append] at hown5)
    | (at_builtin; refine wpList_app _ rfl (.tmp 34) (.tmp 36) 22 rfl (w3.setCell ⟨d, 1, none⟩ (.slice A3 n3 c3)) 28 _ 2 32 Tryd.underlying22 infoRfd rfl (by decide) _ _ _ rfl (hown5.alloc _) _ 1 1 (fldCells [(auN, ⟨#[120]⟩)]) rfl (Rd.two _ _ _ _ (by simp)) (fldCells_one _) (hb5.alloc _) (by omega) (by decide) ?_; intro A7 c7 w7 hown7 hb7 hle7; have i1 : w7.cell? ⟨b, 1, none⟩ = some (.slice Aq nq cq) := (HbW.out.ext hb7).cell 1; have i2 : w7.frozen? ⟨b, 1, none⟩ = false := (HbW.out.ext hb7).frozen 1))
  have HB8 := Lib.hid ((HbW.out.ext hb7).set_ 1 (.slice A7 (n3 + 1) c7))
  have HD8 := Lib.hid ((HdW.out.ext hb7).far (p := ⟨b, 1, none⟩) hne2 (.slice A7 (n3 + 1) c7))
  have hX8 := (ExtB.refl b w7).set_ 1 (.slice A7 (n3 + 1) c7)
  have HE8 := Lib.hid ((HEW.out.trans hb7).growB hX8 Hwb.out)
  rw [← fldCells_app] at hown7
  have hfar7 := own_far hown7
  have HR7 := Lib.hid (Rd.growB (Rd.of_own hown7) hX8 (fun a ha => by have := hfar7 a ha; omega))
  have HR8 := Lib.hid (Rd.growB (HR3.out.ext hb7) hX8 (fun a ha => by have := Hlo.out a ha; omega))
  have hw8 : d < w7.heap.size := by have := hb7.size; omega
  have hsz8 := setCell_sz w7 ⟨b, 1, none⟩ (.slice A7 (n3 + 1) c7)
  have HL8 := Lib.hid (show ∀ a, A7 = some a → b ≠ a.block ∧ d ≠ a.block from fun a ha => by have := hfar7 a ha; omega)
  clear hown7 hown5 hown0 hb5 hb7 hb3 hX8 hfar7 HbW HdW HEW HR3 i1 i2 g1 g2 g3 g4 hle5 hle7 hsW hsw3
  generalize hW8 : w7.setCell ⟨b, 1, none⟩ (.slice A7 (n3 + 1) c7) = W8 at *
  have Hd8 := Lib.hid (show d < W8.heap.size by omega)
  clear hW8 hsz8 hw8 hdw
  have HC := Lib.hid (show ∀ w', Ext W8 w' → (w'.cell? ⟨b, 0, none⟩ = some (.string me) ∧ w'.cell? ⟨b, 1, none⟩ = some (.slice A7 (n3 + 1) c7) ∧ w'.cell? ⟨b, 2, none⟩ = some (.slice Ar nr cr) ∧ w'.cell? ⟨b, 3, none⟩ = some (.int .i64 st) ∧ w'.cell? ⟨d, 0, none⟩ = some (.string me) ∧ w'.cell? ⟨d, 1, none⟩ = some (.slice A3 n3 c3) ∧ w'.cell? ⟨d, 2, none⟩ = some (.slice Ar nr cr) ∧ w'.cell? ⟨d, 3, none⟩ = some (.int .i64 st)) from fun w' h => ⟨(HB8.out.ext h).cell 0, (HB8.out.ext h).cell 1, (HB8.out.ext h).cell 2, (HB8.out.ext h).cell 3, (HD8.out.ext h).cell 0, (HD8.out.ext h).cell 1, (HD8.out.ext h).cell 2, (HD8.out.ext h).cell 3⟩)
  have HO1 := Lib.hid (fun w' (h : Ext W8 w') => law15_of me A7 (n3 + 1) c7 (RQ ++ [(auN, ⟨#[120]⟩)]) Ar nr cr rp st w' (HR7.out.ext h) (hfr.ext (HE8.out.trans h)) (by omega) (by omega) (bsz_add HZ3.out (by decide) (by decide)) HZ.out.2 (hg.ext (HE8.out.trans h)) (by omega) (hgl.ext (HE8.out.trans h)))
  have HO2 := Lib.hid (fun w' (h : Ext W8 w') => law15_of me A3 n3 c3 RQ Ar nr cr rp st w' (HR8.out.ext h) (hfr.ext (HE8.out.trans h)) (by omega) (by omega) HZ3.out HZ.out.2 (hg.ext (HE8.out.trans h)) (by omega) (hgl.ext (HE8.out.trans h)))
  have HNM := Lib.hid (rs_auth (isG me) RQ ⟨#[120]⟩ st rp hh0)
  have HAL := Lib.hid (fun v (hv : v ∈ auW4) => rs_allowed (isG me) RQ ⟨#[120]⟩ st (rp ++ [(ccN, v)]) hh0 (auW4_al rp v hv))
  clear hh0
  generalize rsS (isG me) (RQ ++ [(auN, ⟨#[120]⟩)]) st rp = N at *
  generalize rsS (isG me) RQ st rp = M at *
  have hE := (Ext.refl W8).drew
  refine wp_region_held_drew (S := (fun w' => w'.cell? ⟨b, 0, none⟩ = some (.string me) ∧ w'.cell? ⟨b, 1, none⟩ = some (.slice A7 (n3 + 1) c7) ∧ w'.cell? ⟨b, 2, none⟩ = some (.slice Ar nr cr) ∧ w'.cell? ⟨b, 3, none⟩ = some (.int .i64 st) ∧ w'.cell? ⟨d, 0, none⟩ = some (.string me) ∧ w'.cell? ⟨d, 1, none⟩ = some (.slice A3 n3 c3) ∧ w'.cell? ⟨d, 2, none⟩ = some (.slice Ar nr cr) ∧ w'.cell? ⟨d, 3, none⟩ = some (.int .i64 st))) (by kernel_rfl) ?_ (fun hHeld => ?_)
  · (try dsimp only); exact HC.out _ hE
  refine wpAnyH_take (i := 0) (oi := { dst := some 39, op := _, type := _, pos := _, after := _, guard := _ }) (v := ?_) rfl (by kernel_rfl) (by kernel_rfl) (by kernel_rfl) (fun _ _ _ h => h) (Or.inl ⟨by rfl, ?_⟩) (by assumption) ?_
  rotate_left
  · (intro w hSw; (try dsimp only at hSw); go_simp; (try with_reducible rfl))
  (try simp only [Act.put, List.setIfInBounds_toArray, List.set_cons_zero, List.set_cons_succ])
  refine wpAnyH_take (i := 2) (oi := { dst := some 41, op := _, type := _, pos := _, after := _, guard := _ }) (v := ?_) rfl (by kernel_rfl) (by kernel_rfl) (by kernel_rfl) (fun _ _ _ h => h) (Or.inl ⟨by rfl, ?_⟩) (by assumption) ?_
  rotate_left
  · (intro w hSw; (try dsimp only at hSw); go_simp; (try with_reducible rfl))
  (try simp only [Act.put, List.setIfInBounds_toArray, List.set_cons_zero, List.set_cons_succ])
  refine wpAnyH_ready (rs := [1]) (by kernel_rfl) (by simp) ?_
  refine AllReadyH.cons (o := { dst := some 40, op := _, type := _, pos := _, after := _, guard := _ }) rfl (fun K hK => ?_) AllReadyH.nil
  go_simp
  refine (HO1.out _ hE).mono ?_; rintro e w8 ⟨rfl, hb8⟩; replace hE := hE.trans hb8; clear hb8
  try go_wp2_with fail
  refine hK.out _ _ ?_ (fun hHeld => ?_)
  · (try dsimp only); exact HC.out _ hE
  clear hK K
  (try simp only [Act.put, List.setIfInBounds_toArray, List.set_cons_zero, List.set_cons_succ])
  refine wpAnyH_ready (rs := [3]) (by kernel_rfl) (by simp) ?_
  refine AllReadyH.cons (o := { dst := some 42, op := _, type := _, pos := _, after := _, guard := _ }) rfl (fun K hK => ?_) AllReadyH.nil
  go_simp
  refine (HO2.out _ hE).mono ?_; rintro e w9 ⟨rfl, hb9⟩; replace hE := hE.trans hb9; clear hb9
  try go_wp2_with fail
  refine hK.out _ _ ?_ (fun hHeld => ?_)
  · (try dsimp only); exact HC.out _ hE
  clear hK K
  (try simp only [Act.put, List.setIfInBounds_toArray, List.set_cons_zero, List.set_cons_succ])
  refine wpAnyH_take (i := 4) (oi := { dst := some 6, op := _, type := _, pos := _, after := _, guard := _ }) (v := ?_) rfl (by kernel_rfl) (by kernel_rfl) (by kernel_rfl) (fun _ _ _ h => h) (Or.inl ⟨by rfl, ?_⟩) (by assumption) ?_
  rotate_left
  · (intro w hSw; (try dsimp only at hSw); go_simp; (try with_reducible rfl))
  (try simp only [Act.put, List.setIfInBounds_toArray, List.set_cons_zero, List.set_cons_succ])
  refine wpAnyH_take (i := 5) (oi := { dst := some 7, op := _, type := _, pos := _, after := _, guard := _ }) (v := ?_) rfl (by kernel_rfl) (by kernel_rfl) (by kernel_rfl) (fun _ _ _ h => h) (Or.inl ⟨by rfl, ?_⟩) (by assumption) ?_
  rotate_left
  · (intro w hSw; (try dsimp only at hSw); go_simp; (try with_reducible rfl))
  (try simp only [Act.put, List.setIfInBounds_toArray, List.set_cons_zero, List.set_cons_succ])
  refine wpAnyH_done (by kernel_rfl) ?_ _
  have hNM := HNM.out
  clear HNM
  rcases hNM with hNM | ⟨hN, hM | hM⟩
  · skip
    subst hNM
    have hz : (N == N) = true := by simp
    skip
    have HB9 := Lib.hid (HB8.out.ext hE); have HD9 := Lib.hid (HD8.out.ext hE); have HE9 := Lib.hid (HE8.out.trans hE); have HR79 := Lib.hid (HR7.out.ext hE); have HR89 := Lib.hid (HR8.out.ext hE)
    have Hd9 := Lib.hid (show d < w9.heap.size by have := Hd8.out; have := hE.size; have h3 : W8.drew.heap.size = W8.heap.size := rfl; omega)
    clear hE HC HO1 HO2
    have hlit : RdS (w9.alloc (.cells #[.string ⟨#[112, 117, 98, 108, 105, 99]⟩, .string ⟨#[109, 117, 115, 116, 45, 114, 101, 118, 97, 108, 105, 100, 97, 116, 101]⟩, .string ⟨#[115, 45, 109, 97, 120, 97, 103, 101, 61, 57]⟩, .string ⟨#[112, 114, 111, 120, 121, 45, 114, 101, 118, 97, 108, 105, 100, 97, 116, 101]⟩] 9)) (some ⟨w9.heap.size, 0, none⟩) 4 auW4 := Rd.lit w9 #[.string ⟨#[112, 117, 98, 108, 105, 99]⟩, .string ⟨#[109, 117, 115, 116, 45, 114, 101, 118, 97, 108, 105, 100, 97, 116, 101]⟩, .string ⟨#[115, 45, 109, 97, 120, 97, 103, 101, 61, 57]⟩, .string ⟨#[112, 114, 111, 120, 121, 45, 114, 101, 118, 97, 108, 105, 100, 97, 116, 101]⟩] 9 rfl 1 4 rfl
    have hkL : k < auW4.length := hk4
    obtain ⟨b5, o5, hbo, hl0⟩ := hlit.atS hkL
    injection hbo with hbo
    injection hbo with e1 e2
    subst e1; subst e2
    rw [Nat.zero_add] at hl0
    have Hal := Lib.hid (HAL.out auW4[k] (List.getElem_mem hkL))
    have Hsv := Lib.hid (auW4_sz auW4[k] (List.getElem_mem hkL))
    generalize auW4[k] = wv at *
    clear hlit hkL HAL
    have HBx := Lib.hid (HB9.out.alloc (.cells #[.string ⟨#[112, 117, 98, 108, 105, 99]⟩, .string ⟨#[109, 117, 115, 116, 45, 114, 101, 118, 97, 108, 105, 100, 97, 116, 101]⟩, .string ⟨#[115, 45, 109, 97, 120, 97, 103, 101, 61, 57]⟩, .string ⟨#[112, 114, 111, 120, 121, 45, 114, 101, 118, 97, 108, 105, 100, 97, 116, 101]⟩] 9)); have HDx := Lib.hid (HD9.out.alloc (.cells #[.string ⟨#[112, 117, 98, 108, 105, 99]⟩, .string ⟨#[109, 117, 115, 116, 45, 114, 101, 118, 97, 108, 105, 100, 97, 116, 101]⟩, .string ⟨#[115, 45, 109, 97, 120, 97, 103, 101, 61, 57]⟩, .string ⟨#[112, 114, 111, 120, 121, 45, 114, 101, 118, 97, 108, 105, 100, 97, 116, 101]⟩] 9)); have HEx := Lib.hid (HE9.out.alloc (.cells #[.string ⟨#[112, 117, 98, 108, 105, 99]⟩, .string ⟨#[109, 117, 115, 116, 45, 114, 101, 118, 97, 108, 105, 100, 97, 116, 101]⟩, .string ⟨#[115, 45, 109, 97, 120, 97, 103, 101, 61, 57]⟩, .string ⟨#[112, 114, 111, 120, 121, 45, 114, 101, 118, 97, 108, 105, 100, 97, 116, 101]⟩] 9))
    have HR7x := Lib.hid (HR79.out.alloc (.cells #[.string ⟨#[112, 117, 98, 108, 105, 99]⟩, .string ⟨#[109, 117, 115, 116, 45, 114, 101, 118, 97, 108, 105, 100, 97, 116, 101]⟩, .string ⟨#[115, 45, 109, 97, 120, 97, 103, 101, 61, 57]⟩, .string ⟨#[112, 114, 111, 120, 121, 45, 114, 101, 118, 97, 108, 105, 100, 97, 116, 101]⟩] 9)); have HR8x := Lib.hid (HR89.out.alloc (.cells #[.string ⟨#[112, 117, 98, 108, 105, 99]⟩, .string ⟨#[109, 117, 115, 116, 45, 114, 101, 118, 97, 108, 105, 100, 97, 116, 101]⟩, .string ⟨#[115, 45, 109, 97, 120, 97, 103, 101, 61, 57]⟩, .string ⟨#[112, 114, 111, 120, 121, 45, 114, 101, 118, 97, 108, 105, 100, 97, 116, 101]⟩] 9))
    have x2 : (w9.alloc (.cells #[.string ⟨#[112, 117, 98, 108, 105, 99]⟩, .string ⟨#[109, 117, 115, 116, 45, 114, 101, 118, 97, 108, 105, 100, 97, 116, 101]⟩, .string ⟨#[115, 45, 109, 97, 120, 97, 103, 101, 61, 57]⟩, .string ⟨#[112, 114, 111, 120, 121, 45, 114, 101, 118, 97, 108, 105, 100, 97, 116, 101]⟩] 9)).cell? ⟨b, 2, none⟩ = some (.slice Ar nr cr) := HBx.out.cell 2
    have x3 : ((w9.alloc (.cells #[.string ⟨#[112, 117, 98, 108, 105, 99]⟩, .string ⟨#[109, 117, 115, 116, 45, 114, 101, 118, 97, 108, 105, 100, 97, 116, 101]⟩, .string ⟨#[115, 45, 109, 97, 120, 97, 103, 101, 61, 57]⟩, .string ⟨#[112, 114, 111, 120, 121, 45, 114, 101, 118, 97, 108, 105, 100, 97, 116, 101]⟩] 9)).alloc (.cells #[] 28)).cell? ⟨b, 2, none⟩ = some (.slice Ar nr cr) := (HBx.out.alloc (.cells #[] 28)).cell 2
    have hownx := own_made_at (w := (w9.alloc (.cells #[.string ⟨#[112, 117, 98, 108, 105, 99]⟩, .string ⟨#[109, 117, 115, 116, 45, 114, 101, 118, 97, 108, 105, 100, 97, 116, 101]⟩, .string ⟨#[115, 45, 109, 97, 120, 97, 103, 101, 61, 57]⟩, .string ⟨#[112, 114, 111, 120, 121, 45, 114, 101, 118, 97, 108, 105, 100, 97, 116, 101]⟩] 9))) (e := 28) (b := w9.heap.size + 1) (by rw [World.size_alloc])
    have hsx : (w9.alloc (.cells #[.string ⟨#[112, 117, 98, 108, 105, 99]⟩, .string ⟨#[109, 117, 115, 116, 45, 114, 101, 118, 97, 108, 105, 100, 97, 116, 101]⟩, .string ⟨#[115, 45, 109, 97, 120, 97, 103, 101, 61, 57]⟩, .string ⟨#[112, 114, 111, 120, 121, 45, 114, 101, 118, 97, 108, 105, 100, 97, 116, 101]⟩] 9)).heap.size = w9.heap.size + 1 := World.size_alloc _ _
    have hRr := hfr.ext HEx.out
    clear HB9 HD9 HE9 HR79 HR89 HB8 HD8 HE8 HR7 HR8 Hd8
    have HRr := Lib.hid hRr; clear hRr
    go_wp2_with (first
      | (at_builtin; refine wpList_app _ rfl (.tmp 63) (.tmp 65) 22 rfl (w9.alloc (.cells #[.string ⟨#[112, 117, 98, 108, 105, 99]⟩, .string ⟨#[109, 117, 115, 116, 45, 114, 101, 118, 97, 108, 105, 100, 97, 116, 101]⟩, .string ⟨#[115, 45, 109, 97, 120, 97, 103, 101, 61, 57]⟩, .string ⟨#[112, 114, 111, 120, 121, 45, 114, 101, 118, 97, 108, 105, 100, 97, 116, 101]⟩] 9)) 28 _ 2 32 Tryd.underlying22 infoRfd rfl (by decide) _ _ _ rfl hownx Ar nr cr (fldCells rp) rfl (HRr.out.alloc _) (fldCells_one _) ((Ext.refl _).alloc _) (by omega) (by decide) ?_; intro A10 c10 w10 hown10 hb10 hle10; rw [Nat.zero_add] at hown10 hle10 ⊢; rw [List.nil_append] at hown10)
      | (at_builtin; refine wpList_app _ rfl (.tmp 66) (.tmp 69) 22 rfl (w9.alloc (.cells #[.string ⟨#[112, 117, 98, 108, 105, 99]⟩, .string ⟨#[109, 117, 115, 116, 45, 114, 101, 118, 97, 108, 105, 100, 97, 116, 101]⟩, .string ⟨#[115, 45, 109, 97, 120, 97, 103, 101, 61, 57]⟩, .string ⟨#[112, 114, 111, 120, 121, 45, 114, 101, 118, 97, 108, 105, 100, 97, 116, 101]⟩] 9)) 28 _ 2 32 Tryd.underlying22 infoRfd rfl (by decide) _ _ _ rfl (hown10.alloc _) _ 1 1 (fldCells [(ccN, wv)]) rfl (Rd.two _ _ _ _ (by simp)) (fldCells_one _) (hb10.alloc _) (by omega) (by decide) ?_; intro A11 c11 w11 hown11 hb11 hle11; have j1 : w11.cell? ⟨b, 2, none⟩ = some (.slice Ar nr cr) := (HBx.out.ext hb11).cell 2; have j2 : w11.frozen? ⟨b, 2, none⟩ = false := (HBx.out.ext hb11).frozen 2; have j3 : (w11.setCell ⟨b, 2, none⟩ (.slice A11 (nr + 1) c11)).cell? ⟨d, 2, none⟩ = some (.slice Ar nr cr) := ((HDx.out.ext hb11).far (p := ⟨b, 2, none⟩) hne2 (.slice A11 (nr + 1) c11)).cell 2; have j4 : (w11.setCell ⟨b, 2, none⟩ (.slice A11 (nr + 1) c11)).frozen? ⟨d, 2, none⟩ = false := ((HDx.out.ext hb11).far (p := ⟨b, 2, none⟩) hne2 (.slice A11 (nr + 1) c11)).frozen 2))
    have hXb := (ExtB.refl b w11).set_ 2 (.slice A11 (nr + 1) c11)
    have hXd := (ExtB.refl d (w11.setCell ⟨b, 2, none⟩ (.slice A11 (nr + 1) c11))).set_ 2 (.slice A11 (nr + 1) c11)
    have HBy := Lib.hid (((HBx.out.ext hb11).set_ 2 (.slice A11 (nr + 1) c11)).far (p := ⟨d, 2, none⟩) hne (.slice A11 (nr + 1) c11))
    have HDy := Lib.hid (((HDx.out.ext hb11).far (p := ⟨b, 2, none⟩) hne2 (.slice A11 (nr + 1) c11)).set_ 2 (.slice A11 (nr + 1) c11))
    have HEy := Lib.hid (((HEx.out.trans hb11).growB hXb Hwb.out).growB hXd (by have := Hwb.out; omega))
    rw [← fldCells_app] at hown11
    have hfar := own_far hown11
    have HRy := Lib.hid (Rd.growB (Rd.growB (Rd.of_own hown11) hXb (fun a ha => by have h1 := hfar a ha; have h2 := Hd9.out; omega)) hXd (fun a ha => by have h1 := hfar a ha; have h2 := Hd9.out; omega))
    have HR7y := Lib.hid (Rd.growB (Rd.growB (HR7x.out.ext hb11) hXb (fun a ha => (HL8.out a ha).1.symm)) hXd (fun a ha => (HL8.out a ha).2.symm))
    have HR8y := Lib.hid (Rd.growB (Rd.growB (HR8x.out.ext hb11) hXb (fun a ha => (Hlo.out a ha).1.symm)) hXd (fun a ha => (Hlo.out a ha).2.symm))
    clear hown11 hown10 hownx hb10 hb11 hXb hXd hfar HBx HDx HEx HR7x HR8x HRr j1 j2 j3 j4 x2 x3 hsx hl0
    generalize (w11.setCell ⟨b, 2, none⟩ (.slice A11 (nr + 1) c11)).setCell ⟨d, 2, none⟩ (.slice A11 (nr + 1) c11) = WY at *
    have HC := Lib.hid (show ∀ w', Ext WY w' → (w'.cell? ⟨b, 0, none⟩ = some (.string me) ∧ w'.cell? ⟨b, 1, none⟩ = some (.slice A7 (n3 + 1) c7) ∧ w'.cell? ⟨b, 2, none⟩ = some (.slice A11 (nr + 1) c11) ∧ w'.cell? ⟨b, 3, none⟩ = some (.int .i64 st) ∧ w'.cell? ⟨d, 0, none⟩ = some (.string me) ∧ w'.cell? ⟨d, 1, none⟩ = some (.slice A3 n3 c3) ∧ w'.cell? ⟨d, 2, none⟩ = some (.slice A11 (nr + 1) c11) ∧ w'.cell? ⟨d, 3, none⟩ = some (.int .i64 st)) from fun w' h => ⟨(HBy.out.ext h).cell 0, (HBy.out.ext h).cell 1, (HBy.out.ext h).cell 2, (HBy.out.ext h).cell 3, (HDy.out.ext h).cell 0, (HDy.out.ext h).cell 1, (HDy.out.ext h).cell 2, (HDy.out.ext h).cell 3⟩)
    have hsv := Hsv.out
    have hs1 : sumF [(ccN, wv)] = 13 + wv.size := by simp [sumF]; rfl
    have HO1 := Lib.hid (fun w' (h : Ext WY w') => law15_of me A7 (n3 + 1) c7 (RQ ++ [(auN, ⟨#[120]⟩)]) A11 (nr + 1) c11 (rp ++ [(ccN, wv)]) st w' (HR7y.out.ext h) (HRy.out.ext h) (by omega) (by omega) (bsz_add HZ3.out (by decide) (by decide)) (bsz_add HZ.out.2 (by decide) (by omega)) (hg.ext (HEy.out.trans h)) (by rw [sumF_app15, hs1]; omega) (hgl.ext (HEy.out.trans h)))
    have HO2 := Lib.hid (fun w' (h : Ext WY w') => law15_of me A3 n3 c3 RQ A11 (nr + 1) c11 (rp ++ [(ccN, wv)]) st w' (HR8y.out.ext h) (HRy.out.ext h) (by omega) (by omega) HZ3.out (bsz_add HZ.out.2 (by decide) (by omega)) (hg.ext (HEy.out.trans h)) (by rw [sumF_app15, hs1]; omega) (hgl.ext (HEy.out.trans h)))
    rw [← Hal.out.1] at HO2
    have h7 := Hal.out.2
    clear Hal
    generalize rsS (isG me) (RQ ++ [(auN, ⟨#[120]⟩)]) st (rp ++ [(ccN, wv)]) = N2 at *
    have hE := (Ext.refl WY).drew
    refine wp_region_held_drew (S := (fun w' => w'.cell? ⟨b, 0, none⟩ = some (.string me) ∧ w'.cell? ⟨b, 1, none⟩ = some (.slice A7 (n3 + 1) c7) ∧ w'.cell? ⟨b, 2, none⟩ = some (.slice A11 (nr + 1) c11) ∧ w'.cell? ⟨b, 3, none⟩ = some (.int .i64 st) ∧ w'.cell? ⟨d, 0, none⟩ = some (.string me) ∧ w'.cell? ⟨d, 1, none⟩ = some (.slice A3 n3 c3) ∧ w'.cell? ⟨d, 2, none⟩ = some (.slice A11 (nr + 1) c11) ∧ w'.cell? ⟨d, 3, none⟩ = some (.int .i64 st))) (by kernel_rfl) ?_ (fun hHeld => ?_)
    · (try dsimp only); exact HC.out _ hE
    refine wpAnyH_take (i := 0) (oi := { dst := some 75, op := _, type := _, pos := _, after := _, guard := _ }) (v := ?_) rfl (by kernel_rfl) (by kernel_rfl) (by kernel_rfl) (fun _ _ _ h => h) (Or.inl ⟨by rfl, ?_⟩) (by assumption) ?_
    rotate_left
    · (intro w hSw; (try dsimp only at hSw); go_simp; (try with_reducible rfl))
    (try simp only [Act.put, List.setIfInBounds_toArray, List.set_cons_zero, List.set_cons_succ])
    refine wpAnyH_take (i := 2) (oi := { dst := some 77, op := _, type := _, pos := _, after := _, guard := _ }) (v := ?_) rfl (by kernel_rfl) (by kernel_rfl) (by kernel_rfl) (fun _ _ _ h => h) (Or.inl ⟨by rfl, ?_⟩) (by assumption) ?_
    rotate_left
    · (intro w hSw; (try dsimp only at hSw); go_simp; (try with_reducible rfl))
    (try simp only [Act.put, List.setIfInBounds_toArray, List.set_cons_zero, List.set_cons_succ])
    refine wpAnyH_ready (rs := [1]) (by kernel_rfl) (by simp) ?_
    refine AllReadyH.cons (o := { dst := some 76, op := _, type := _, pos := _, after := _, guard := _ }) rfl (fun K hK => ?_) AllReadyH.nil
    go_simp
    refine (HO1.out _ hE).mono ?_; rintro e w11 ⟨rfl, hb21⟩; replace hE := hE.trans hb21; clear hb21
    try go_wp2_with fail
    refine hK.out _ _ ?_ (fun hHeld => ?_)
    · (try dsimp only); exact HC.out _ hE
    clear hK K
    (try simp only [Act.put, List.setIfInBounds_toArray, List.set_cons_zero, List.set_cons_succ])
    refine wpAnyH_ready (rs := [3]) (by kernel_rfl) (by simp) ?_
    refine AllReadyH.cons (o := { dst := some 78, op := _, type := _, pos := _, after := _, guard := _ }) rfl (fun K hK => ?_) AllReadyH.nil
    go_simp
    refine (HO2.out _ hE).mono ?_; rintro e w13 ⟨rfl, hb23⟩; replace hE := hE.trans hb23; clear hb23
    try go_wp2_with fail
    refine hK.out _ _ ?_ (fun hHeld => ?_)
    · (try dsimp only); exact HC.out _ hE
    clear hK K
    (try simp only [Act.put, List.setIfInBounds_toArray, List.set_cons_zero, List.set_cons_succ])
    refine wpAnyH_take (i := 4) (oi := { dst := some 79, op := _, type := _, pos := _, after := _, guard := _ }) (v := ?_) rfl (by kernel_rfl) (by kernel_rfl) (by kernel_rfl) (fun _ _ _ h => h) (Or.inl ⟨by rfl, ?_⟩) (by assumption) ?_
    rotate_left
    · (intro w hSw; (try dsimp only at hSw); go_simp; (try with_reducible rfl))
    (try simp only [Act.put, List.setIfInBounds_toArray, List.set_cons_zero, List.set_cons_succ])
    refine wpAnyH_take (i := 5) (oi := { dst := some 80, op := _, type := _, pos := _, after := _, guard := _ }) (v := ?_) rfl (by kernel_rfl) (by kernel_rfl) (by kernel_rfl) (fun _ _ _ h => h) (Or.inl ⟨by rfl, ?_⟩) (by assumption) ?_
    rotate_left
    · (intro w hSw; (try dsimp only at hSw); go_simp; (try with_reducible rfl))
    (try simp only [Act.put, List.setIfInBounds_toArray, List.set_cons_zero, List.set_cons_succ])
    refine wpAnyH_take (i := 6) (oi := { dst := some 81, op := _, type := _, pos := _, after := _, guard := _ }) (v := ?_) rfl (by kernel_rfl) (by kernel_rfl) (by kernel_rfl) (fun _ _ _ h => h) (Or.inl ⟨by rfl, ?_⟩) (by assumption) ?_
    rotate_left
    · (intro w hSw; (try dsimp only at hSw); go_simp; (try with_reducible rfl))
    (try simp only [Act.put, List.setIfInBounds_toArray, List.set_cons_zero, List.set_cons_succ])
    refine wpAnyH_ready (rs := [7]) (by kernel_rfl) (by simp) ?_
    refine AllReadyH.cons (o := { dst := some 82, op := _, type := _, pos := _, after := _, guard := _ }) rfl (fun K hK => ?_) AllReadyH.nil
    go_simp
    refine (HO1.out _ hE).mono ?_; rintro e w17 ⟨rfl, hb27⟩; replace hE := hE.trans hb27; clear hb27
    try go_wp2_with fail
    refine hK.out _ _ ?_ (fun hHeld => ?_)
    · (try dsimp only); exact HC.out _ hE
    clear hK K
    (try simp only [Act.put, List.setIfInBounds_toArray, List.set_cons_zero, List.set_cons_succ])
    refine wpAnyH_take (i := 8) (oi := { dst := some 83, op := _, type := _, pos := _, after := _, guard := _ }) (v := ?_) rfl (by kernel_rfl) (by kernel_rfl) (by kernel_rfl) (fun _ _ _ h => h) (Or.inl ⟨by rfl, ?_⟩) (by assumption) ?_
    rotate_left
    · (intro w hSw; (try dsimp only at hSw); go_simp; (try with_reducible rfl))
    (try simp only [Act.put, List.setIfInBounds_toArray, List.set_cons_zero, List.set_cons_succ])
    refine wpAnyH_take (i := 9) (oi := { dst := some 84, op := _, type := _, pos := _, after := _, guard := _ }) (v := ?_) rfl (by kernel_rfl) (by kernel_rfl) (by kernel_rfl) (fun _ _ _ h => h) (Or.inl ⟨by rfl, ?_⟩) (by assumption) ?_
    rotate_left
    · (intro w hSw; (try dsimp only at hSw); go_simp; (try with_reducible rfl))
    (try simp only [Act.put, List.setIfInBounds_toArray, List.set_cons_zero, List.set_cons_succ])
    refine wpAnyH_take (i := 10) (oi := { dst := some 4, op := _, type := _, pos := _, after := _, guard := _ }) (v := ?_) rfl (by kernel_rfl) (by kernel_rfl) (by kernel_rfl) (fun _ _ _ h => h) (Or.inl ⟨by rfl, ?_⟩) (by assumption) ?_
    rotate_left
    · (intro w hSw; (try dsimp only at hSw); go_simp; (try with_reducible rfl))
    (try simp only [Act.put, List.setIfInBounds_toArray, List.set_cons_zero, List.set_cons_succ])
    refine wpAnyH_done (by kernel_rfl) ?_ _
    go_wp2_with fail
    go_ret
    exact ⟨ret_b (by simp [h7]), HEy.out.trans hE⟩
  · skip
    subst hN; subst hM
    skip
    have HB9 := Lib.hid (HB8.out.ext hE); have HD9 := Lib.hid (HD8.out.ext hE); have HE9 := Lib.hid (HE8.out.trans hE); have HR79 := Lib.hid (HR7.out.ext hE); have HR89 := Lib.hid (HR8.out.ext hE)
    have Hd9 := Lib.hid (show d < w9.heap.size by have := Hd8.out; have := hE.size; have h3 : W8.drew.heap.size = W8.heap.size := rfl; omega)
    clear hE HC HO1 HO2
    have hlit : RdS (w9.alloc (.cells #[.string ⟨#[112, 117, 98, 108, 105, 99]⟩, .string ⟨#[109, 117, 115, 116, 45, 114, 101, 118, 97, 108, 105, 100, 97, 116, 101]⟩, .string ⟨#[115, 45, 109, 97, 120, 97, 103, 101, 61, 57]⟩, .string ⟨#[112, 114, 111, 120, 121, 45, 114, 101, 118, 97, 108, 105, 100, 97, 116, 101]⟩] 9)) (some ⟨w9.heap.size, 0, none⟩) 4 auW4 := Rd.lit w9 #[.string ⟨#[112, 117, 98, 108, 105, 99]⟩, .string ⟨#[109, 117, 115, 116, 45, 114, 101, 118, 97, 108, 105, 100, 97, 116, 101]⟩, .string ⟨#[115, 45, 109, 97, 120, 97, 103, 101, 61, 57]⟩, .string ⟨#[112, 114, 111, 120, 121, 45, 114, 101, 118, 97, 108, 105, 100, 97, 116, 101]⟩] 9 rfl 1 4 rfl
    have hkL : k < auW4.length := hk4
    obtain ⟨b5, o5, hbo, hl0⟩ := hlit.atS hkL
    injection hbo with hbo
    injection hbo with e1 e2
    subst e1; subst e2
    rw [Nat.zero_add] at hl0
    have Hal := Lib.hid (HAL.out auW4[k] (List.getElem_mem hkL))
    have Hsv := Lib.hid (auW4_sz auW4[k] (List.getElem_mem hkL))
    generalize auW4[k] = wv at *
    clear hlit hkL HAL
    have HBx := Lib.hid (HB9.out.alloc (.cells #[.string ⟨#[112, 117, 98, 108, 105, 99]⟩, .string ⟨#[109, 117, 115, 116, 45, 114, 101, 118, 97, 108, 105, 100, 97, 116, 101]⟩, .string ⟨#[115, 45, 109, 97, 120, 97, 103, 101, 61, 57]⟩, .string ⟨#[112, 114, 111, 120, 121, 45, 114, 101, 118, 97, 108, 105, 100, 97, 116, 101]⟩] 9)); have HDx := Lib.hid (HD9.out.alloc (.cells #[.string ⟨#[112, 117, 98, 108, 105, 99]⟩, .string ⟨#[109, 117, 115, 116, 45, 114, 101, 118, 97, 108, 105, 100, 97, 116, 101]⟩, .string ⟨#[115, 45, 109, 97, 120, 97, 103, 101, 61, 57]⟩, .string ⟨#[112, 114, 111, 120, 121, 45, 114, 101, 118, 97, 108, 105, 100, 97, 116, 101]⟩] 9)); have HEx := Lib.hid (HE9.out.alloc (.cells #[.string ⟨#[112, 117, 98, 108, 105, 99]⟩, .string ⟨#[109, 117, 115, 116, 45, 114, 101, 118, 97, 108, 105, 100, 97, 116, 101]⟩, .string ⟨#[115, 45, 109, 97, 120, 97, 103, 101, 61, 57]⟩, .string ⟨#[112, 114, 111, 120, 121, 45, 114, 101, 118, 97, 108, 105, 100, 97, 116, 101]⟩] 9))
    have HR7x := Lib.hid (HR79.out.alloc (.cells #[.string ⟨#[112, 117, 98, 108, 105, 99]⟩, .string ⟨#[109, 117, 115, 116, 45, 114, 101, 118, 97, 108, 105, 100, 97, 116, 101]⟩, .string ⟨#[115, 45, 109, 97, 120, 97, 103, 101, 61, 57]⟩, .string ⟨#[112, 114, 111, 120, 121, 45, 114, 101, 118, 97, 108, 105, 100, 97, 116, 101]⟩] 9)); have HR8x := Lib.hid (HR89.out.alloc (.cells #[.string ⟨#[112, 117, 98, 108, 105, 99]⟩, .string ⟨#[109, 117, 115, 116, 45, 114, 101, 118, 97, 108, 105, 100, 97, 116, 101]⟩, .string ⟨#[115, 45, 109, 97, 120, 97, 103, 101, 61, 57]⟩, .string ⟨#[112, 114, 111, 120, 121, 45, 114, 101, 118, 97, 108, 105, 100, 97, 116, 101]⟩] 9))
    have x2 : (w9.alloc (.cells #[.string ⟨#[112, 117, 98, 108, 105, 99]⟩, .string ⟨#[109, 117, 115, 116, 45, 114, 101, 118, 97, 108, 105, 100, 97, 116, 101]⟩, .string ⟨#[115, 45, 109, 97, 120, 97, 103, 101, 61, 57]⟩, .string ⟨#[112, 114, 111, 120, 121, 45, 114, 101, 118, 97, 108, 105, 100, 97, 116, 101]⟩] 9)).cell? ⟨b, 2, none⟩ = some (.slice Ar nr cr) := HBx.out.cell 2
    have x3 : ((w9.alloc (.cells #[.string ⟨#[112, 117, 98, 108, 105, 99]⟩, .string ⟨#[109, 117, 115, 116, 45, 114, 101, 118, 97, 108, 105, 100, 97, 116, 101]⟩, .string ⟨#[115, 45, 109, 97, 120, 97, 103, 101, 61, 57]⟩, .string ⟨#[112, 114, 111, 120, 121, 45, 114, 101, 118, 97, 108, 105, 100, 97, 116, 101]⟩] 9)).alloc (.cells #[] 28)).cell? ⟨b, 2, none⟩ = some (.slice Ar nr cr) := (HBx.out.alloc (.cells #[] 28)).cell 2
    have hownx := own_made_at (w := (w9.alloc (.cells #[.string ⟨#[112, 117, 98, 108, 105, 99]⟩, .string ⟨#[109, 117, 115, 116, 45, 114, 101, 118, 97, 108, 105, 100, 97, 116, 101]⟩, .string ⟨#[115, 45, 109, 97, 120, 97, 103, 101, 61, 57]⟩, .string ⟨#[112, 114, 111, 120, 121, 45, 114, 101, 118, 97, 108, 105, 100, 97, 116, 101]⟩] 9))) (e := 28) (b := w9.heap.size + 1) (by rw [World.size_alloc])
    have hsx : (w9.alloc (.cells #[.string ⟨#[112, 117, 98, 108, 105, 99]⟩, .string ⟨#[109, 117, 115, 116, 45, 114, 101, 118, 97, 108, 105, 100, 97, 116, 101]⟩, .string ⟨#[115, 45, 109, 97, 120, 97, 103, 101, 61, 57]⟩, .string ⟨#[112, 114, 111, 120, 121, 45, 114, 101, 118, 97, 108, 105, 100, 97, 116, 101]⟩] 9)).heap.size = w9.heap.size + 1 := World.size_alloc _ _
    have hRr := hfr.ext HEx.out
    clear HB9 HD9 HE9 HR79 HR89 HB8 HD8 HE8 HR7 HR8 Hd8
    have HRr := Lib.hid hRr; clear hRr
    go_wp2_with (first
      | (at_builtin; refine wpList_app _ rfl (.tmp 63) (.tmp 65) 22 rfl (w9.alloc (.cells #[.string ⟨#[112, 117, 98, 108, 105, 99]⟩, .string ⟨#[109, 117, 115, 116, 45, 114, 101, 118, 97, 108, 105, 100, 97, 116, 101]⟩, .string ⟨#[115, 45, 109, 97, 120, 97, 103, 101, 61, 57]⟩, .string ⟨#[112, 114, 111, 120, 121, 45, 114, 101, 118, 97, 108, 105, 100, 97, 116, 101]⟩] 9)) 28 _ 2 32 Tryd.underlying22 infoRfd rfl (by decide) _ _ _ rfl hownx Ar nr cr (fldCells rp) rfl (HRr.out.alloc _) (fldCells_one _) ((Ext.refl _).alloc _) (by omega) (by decide) ?_; intro A10 c10 w10 hown10 hb10 hle10; rw [Nat.zero_add] at hown10 hle10 ⊢; rw [List.nil_append] at hown10)
      | (at_builtin; refine wpList_app _ rfl (.tmp 66) (.tmp 69) 22 rfl (w9.alloc (.cells #[.string ⟨#[112, 117, 98, 108, 105, 99]⟩, .string ⟨#[109, 117, 115, 116, 45, 114, 101, 118, 97, 108, 105, 100, 97, 116, 101]⟩, .string ⟨#[115, 45, 109, 97, 120, 97, 103, 101, 61, 57]⟩, .string ⟨#[112, 114, 111, 120, 121, 45, 114, 101, 118, 97, 108, 105, 100, 97, 116, 101]⟩] 9)) 28 _ 2 32 Tryd.underlying22 infoRfd rfl (by decide) _ _ _ rfl (hown10.alloc _) _ 1 1 (fldCells [(ccN, wv)]) rfl (Rd.two _ _ _ _ (by simp)) (fldCells_one _) (hb10.alloc _) (by omega) (by decide) ?_; intro A11 c11 w11 hown11 hb11 hle11; have j1 : w11.cell? ⟨b, 2, none⟩ = some (.slice Ar nr cr) := (HBx.out.ext hb11).cell 2; have j2 : w11.frozen? ⟨b, 2, none⟩ = false := (HBx.out.ext hb11).frozen 2; have j3 : (w11.setCell ⟨b, 2, none⟩ (.slice A11 (nr + 1) c11)).cell? ⟨d, 2, none⟩ = some (.slice Ar nr cr) := ((HDx.out.ext hb11).far (p := ⟨b, 2, none⟩) hne2 (.slice A11 (nr + 1) c11)).cell 2; have j4 : (w11.setCell ⟨b, 2, none⟩ (.slice A11 (nr + 1) c11)).frozen? ⟨d, 2, none⟩ = false := ((HDx.out.ext hb11).far (p := ⟨b, 2, none⟩) hne2 (.slice A11 (nr + 1) c11)).frozen 2))
    have hXb := (ExtB.refl b w11).set_ 2 (.slice A11 (nr + 1) c11)
    have hXd := (ExtB.refl d (w11.setCell ⟨b, 2, none⟩ (.slice A11 (nr + 1) c11))).set_ 2 (.slice A11 (nr + 1) c11)
    have HBy := Lib.hid (((HBx.out.ext hb11).set_ 2 (.slice A11 (nr + 1) c11)).far (p := ⟨d, 2, none⟩) hne (.slice A11 (nr + 1) c11))
    have HDy := Lib.hid (((HDx.out.ext hb11).far (p := ⟨b, 2, none⟩) hne2 (.slice A11 (nr + 1) c11)).set_ 2 (.slice A11 (nr + 1) c11))
    have HEy := Lib.hid (((HEx.out.trans hb11).growB hXb Hwb.out).growB hXd (by have := Hwb.out; omega))
    rw [← fldCells_app] at hown11
    have hfar := own_far hown11
    have HRy := Lib.hid (Rd.growB (Rd.growB (Rd.of_own hown11) hXb (fun a ha => by have h1 := hfar a ha; have h2 := Hd9.out; omega)) hXd (fun a ha => by have h1 := hfar a ha; have h2 := Hd9.out; omega))
    have HR7y := Lib.hid (Rd.growB (Rd.growB (HR7x.out.ext hb11) hXb (fun a ha => (HL8.out a ha).1.symm)) hXd (fun a ha => (HL8.out a ha).2.symm))
    have HR8y := Lib.hid (Rd.growB (Rd.growB (HR8x.out.ext hb11) hXb (fun a ha => (Hlo.out a ha).1.symm)) hXd (fun a ha => (Hlo.out a ha).2.symm))
    clear hown11 hown10 hownx hb10 hb11 hXb hXd hfar HBx HDx HEx HR7x HR8x HRr j1 j2 j3 j4 x2 x3 hsx hl0
    generalize (w11.setCell ⟨b, 2, none⟩ (.slice A11 (nr + 1) c11)).setCell ⟨d, 2, none⟩ (.slice A11 (nr + 1) c11) = WY at *
    have HC := Lib.hid (show ∀ w', Ext WY w' → (w'.cell? ⟨b, 0, none⟩ = some (.string me) ∧ w'.cell? ⟨b, 1, none⟩ = some (.slice A7 (n3 + 1) c7) ∧ w'.cell? ⟨b, 2, none⟩ = some (.slice A11 (nr + 1) c11) ∧ w'.cell? ⟨b, 3, none⟩ = some (.int .i64 st) ∧ w'.cell? ⟨d, 0, none⟩ = some (.string me) ∧ w'.cell? ⟨d, 1, none⟩ = some (.slice A3 n3 c3) ∧ w'.cell? ⟨d, 2, none⟩ = some (.slice A11 (nr + 1) c11) ∧ w'.cell? ⟨d, 3, none⟩ = some (.int .i64 st)) from fun w' h => ⟨(HBy.out.ext h).cell 0, (HBy.out.ext h).cell 1, (HBy.out.ext h).cell 2, (HBy.out.ext h).cell 3, (HDy.out.ext h).cell 0, (HDy.out.ext h).cell 1, (HDy.out.ext h).cell 2, (HDy.out.ext h).cell 3⟩)
    have hsv := Hsv.out
    have hs1 : sumF [(ccN, wv)] = 13 + wv.size := by simp [sumF]; rfl
    have HO1 := Lib.hid (fun w' (h : Ext WY w') => law15_of me A7 (n3 + 1) c7 (RQ ++ [(auN, ⟨#[120]⟩)]) A11 (nr + 1) c11 (rp ++ [(ccN, wv)]) st w' (HR7y.out.ext h) (HRy.out.ext h) (by omega) (by omega) (bsz_add HZ3.out (by decide) (by decide)) (bsz_add HZ.out.2 (by decide) (by omega)) (hg.ext (HEy.out.trans h)) (by rw [sumF_app15, hs1]; omega) (hgl.ext (HEy.out.trans h)))
    have HO2 := Lib.hid (fun w' (h : Ext WY w') => law15_of me A3 n3 c3 RQ A11 (nr + 1) c11 (rp ++ [(ccN, wv)]) st w' (HR8y.out.ext h) (HRy.out.ext h) (by omega) (by omega) HZ3.out (bsz_add HZ.out.2 (by decide) (by omega)) (hg.ext (HEy.out.trans h)) (by rw [sumF_app15, hs1]; omega) (hgl.ext (HEy.out.trans h)))
    rw [← Hal.out.1] at HO2
    have h7 := Hal.out.2
    clear Hal
    generalize rsS (isG me) (RQ ++ [(auN, ⟨#[120]⟩)]) st (rp ++ [(ccN, wv)]) = N2 at *
    have hE := (Ext.refl WY).drew
    refine wp_region_held_drew (S := (fun w' => w'.cell? ⟨b, 0, none⟩ = some (.string me) ∧ w'.cell? ⟨b, 1, none⟩ = some (.slice A7 (n3 + 1) c7) ∧ w'.cell? ⟨b, 2, none⟩ = some (.slice A11 (nr + 1) c11) ∧ w'.cell? ⟨b, 3, none⟩ = some (.int .i64 st) ∧ w'.cell? ⟨d, 0, none⟩ = some (.string me) ∧ w'.cell? ⟨d, 1, none⟩ = some (.slice A3 n3 c3) ∧ w'.cell? ⟨d, 2, none⟩ = some (.slice A11 (nr + 1) c11) ∧ w'.cell? ⟨d, 3, none⟩ = some (.int .i64 st))) (by kernel_rfl) ?_ (fun hHeld => ?_)
    · (try dsimp only); exact HC.out _ hE
    refine wpAnyH_take (i := 0) (oi := { dst := some 75, op := _, type := _, pos := _, after := _, guard := _ }) (v := ?_) rfl (by kernel_rfl) (by kernel_rfl) (by kernel_rfl) (fun _ _ _ h => h) (Or.inl ⟨by rfl, ?_⟩) (by assumption) ?_
    rotate_left
    · (intro w hSw; (try dsimp only at hSw); go_simp; (try with_reducible rfl))
    (try simp only [Act.put, List.setIfInBounds_toArray, List.set_cons_zero, List.set_cons_succ])
    refine wpAnyH_take (i := 2) (oi := { dst := some 77, op := _, type := _, pos := _, after := _, guard := _ }) (v := ?_) rfl (by kernel_rfl) (by kernel_rfl) (by kernel_rfl) (fun _ _ _ h => h) (Or.inl ⟨by rfl, ?_⟩) (by assumption) ?_
    rotate_left
    · (intro w hSw; (try dsimp only at hSw); go_simp; (try with_reducible rfl))
    (try simp only [Act.put, List.setIfInBounds_toArray, List.set_cons_zero, List.set_cons_succ])
    refine wpAnyH_ready (rs := [1]) (by kernel_rfl) (by simp) ?_
    refine AllReadyH.cons (o := { dst := some 76, op := _, type := _, pos := _, after := _, guard := _ }) rfl (fun K hK => ?_) AllReadyH.nil
    go_simp
    refine (HO1.out _ hE).mono ?_; rintro e w11 ⟨rfl, hb21⟩; replace hE := hE.trans hb21; clear hb21
    try go_wp2_with fail
    refine hK.out _ _ ?_ (fun hHeld => ?_)
    · (try dsimp only); exact HC.out _ hE
    clear hK K
    (try simp only [Act.put, List.setIfInBounds_toArray, List.set_cons_zero, List.set_cons_succ])
    refine wpAnyH_ready (rs := [3]) (by kernel_rfl) (by simp) ?_
    refine AllReadyH.cons (o := { dst := some 78, op := _, type := _, pos := _, after := _, guard := _ }) rfl (fun K hK => ?_) AllReadyH.nil
    go_simp
    refine (HO2.out _ hE).mono ?_; rintro e w13 ⟨rfl, hb23⟩; replace hE := hE.trans hb23; clear hb23
    try go_wp2_with fail
    refine hK.out _ _ ?_ (fun hHeld => ?_)
    · (try dsimp only); exact HC.out _ hE
    clear hK K
    (try simp only [Act.put, List.setIfInBounds_toArray, List.set_cons_zero, List.set_cons_succ])
    refine wpAnyH_take (i := 4) (oi := { dst := some 79, op := _, type := _, pos := _, after := _, guard := _ }) (v := ?_) rfl (by kernel_rfl) (by kernel_rfl) (by kernel_rfl) (fun _ _ _ h => h) (Or.inl ⟨by rfl, ?_⟩) (by assumption) ?_
    rotate_left
    · (intro w hSw; (try dsimp only at hSw); go_simp; (try with_reducible rfl))
    (try simp only [Act.put, List.setIfInBounds_toArray, List.set_cons_zero, List.set_cons_succ])
    refine wpAnyH_take (i := 5) (oi := { dst := some 80, op := _, type := _, pos := _, after := _, guard := _ }) (v := ?_) rfl (by kernel_rfl) (by kernel_rfl) (by kernel_rfl) (fun _ _ _ h => h) (Or.inl ⟨by rfl, ?_⟩) (by assumption) ?_
    rotate_left
    · (intro w hSw; (try dsimp only at hSw); go_simp; (try with_reducible rfl))
    (try simp only [Act.put, List.setIfInBounds_toArray, List.set_cons_zero, List.set_cons_succ])
    refine wpAnyH_take (i := 6) (oi := { dst := some 81, op := _, type := _, pos := _, after := _, guard := _ }) (v := ?_) rfl (by kernel_rfl) (by kernel_rfl) (by kernel_rfl) (fun _ _ _ h => h) (Or.inl ⟨by rfl, ?_⟩) (by assumption) ?_
    rotate_left
    · (intro w hSw; (try dsimp only at hSw); go_simp; (try with_reducible rfl))
    (try simp only [Act.put, List.setIfInBounds_toArray, List.set_cons_zero, List.set_cons_succ])
    refine wpAnyH_ready (rs := [7]) (by kernel_rfl) (by simp) ?_
    refine AllReadyH.cons (o := { dst := some 82, op := _, type := _, pos := _, after := _, guard := _ }) rfl (fun K hK => ?_) AllReadyH.nil
    go_simp
    refine (HO1.out _ hE).mono ?_; rintro e w17 ⟨rfl, hb27⟩; replace hE := hE.trans hb27; clear hb27
    try go_wp2_with fail
    refine hK.out _ _ ?_ (fun hHeld => ?_)
    · (try dsimp only); exact HC.out _ hE
    clear hK K
    (try simp only [Act.put, List.setIfInBounds_toArray, List.set_cons_zero, List.set_cons_succ])
    refine wpAnyH_take (i := 8) (oi := { dst := some 83, op := _, type := _, pos := _, after := _, guard := _ }) (v := ?_) rfl (by kernel_rfl) (by kernel_rfl) (by kernel_rfl) (fun _ _ _ h => h) (Or.inl ⟨by rfl, ?_⟩) (by assumption) ?_
    rotate_left
    · (intro w hSw; (try dsimp only at hSw); go_simp; (try with_reducible rfl))
    (try simp only [Act.put, List.setIfInBounds_toArray, List.set_cons_zero, List.set_cons_succ])
    refine wpAnyH_take (i := 9) (oi := { dst := some 84, op := _, type := _, pos := _, after := _, guard := _ }) (v := ?_) rfl (by kernel_rfl) (by kernel_rfl) (by kernel_rfl) (fun _ _ _ h => h) (Or.inl ⟨by rfl, ?_⟩) (by assumption) ?_
    rotate_left
    · (intro w hSw; (try dsimp only at hSw); go_simp; (try with_reducible rfl))
    (try simp only [Act.put, List.setIfInBounds_toArray, List.set_cons_zero, List.set_cons_succ])
    refine wpAnyH_take (i := 10) (oi := { dst := some 4, op := _, type := _, pos := _, after := _, guard := _ }) (v := ?_) rfl (by kernel_rfl) (by kernel_rfl) (by kernel_rfl) (fun _ _ _ h => h) (Or.inl ⟨by rfl, ?_⟩) (by assumption) ?_
    rotate_left
    · (intro w hSw; (try dsimp only at hSw); go_simp; (try with_reducible rfl))
    (try simp only [Act.put, List.setIfInBounds_toArray, List.set_cons_zero, List.set_cons_succ])
    refine wpAnyH_done (by kernel_rfl) ?_ _
    go_wp2_with fail
    go_ret
    exact ⟨ret_b (by simp [h7]), HEy.out.trans hE⟩
  · skip
    subst hN; subst hM
    skip
    have HB9 := Lib.hid (HB8.out.ext hE); have HD9 := Lib.hid (HD8.out.ext hE); have HE9 := Lib.hid (HE8.out.trans hE); have HR79 := Lib.hid (HR7.out.ext hE); have HR89 := Lib.hid (HR8.out.ext hE)
    have Hd9 := Lib.hid (show d < w9.heap.size by have := Hd8.out; have := hE.size; have h3 : W8.drew.heap.size = W8.heap.size := rfl; omega)
    clear hE HC HO1 HO2
    have hlit : RdS (w9.alloc (.cells #[.string ⟨#[112, 117, 98, 108, 105, 99]⟩, .string ⟨#[109, 117, 115, 116, 45, 114, 101, 118, 97, 108, 105, 100, 97, 116, 101]⟩, .string ⟨#[115, 45, 109, 97, 120, 97, 103, 101, 61, 57]⟩, .string ⟨#[112, 114, 111, 120, 121, 45, 114, 101, 118, 97, 108, 105, 100, 97, 116, 101]⟩] 9)) (some ⟨w9.heap.size, 0, none⟩) 4 auW4 := Rd.lit w9 #[.string ⟨#[112, 117, 98, 108, 105, 99]⟩, .string ⟨#[109, 117, 115, 116, 45, 114, 101, 118, 97, 108, 105, 100, 97, 116, 101]⟩, .string ⟨#[115, 45, 109, 97, 120, 97, 103, 101, 61, 57]⟩, .string ⟨#[112, 114, 111, 120, 121, 45, 114, 101, 118, 97, 108, 105, 100, 97, 116, 101]⟩] 9 rfl 1 4 rfl
    have hkL : k < auW4.length := hk4
    obtain ⟨b5, o5, hbo, hl0⟩ := hlit.atS hkL
    injection hbo with hbo
    injection hbo with e1 e2
    subst e1; subst e2
    rw [Nat.zero_add] at hl0
    have Hal := Lib.hid (HAL.out auW4[k] (List.getElem_mem hkL))
    have Hsv := Lib.hid (auW4_sz auW4[k] (List.getElem_mem hkL))
    generalize auW4[k] = wv at *
    clear hlit hkL HAL
    have HBx := Lib.hid (HB9.out.alloc (.cells #[.string ⟨#[112, 117, 98, 108, 105, 99]⟩, .string ⟨#[109, 117, 115, 116, 45, 114, 101, 118, 97, 108, 105, 100, 97, 116, 101]⟩, .string ⟨#[115, 45, 109, 97, 120, 97, 103, 101, 61, 57]⟩, .string ⟨#[112, 114, 111, 120, 121, 45, 114, 101, 118, 97, 108, 105, 100, 97, 116, 101]⟩] 9)); have HDx := Lib.hid (HD9.out.alloc (.cells #[.string ⟨#[112, 117, 98, 108, 105, 99]⟩, .string ⟨#[109, 117, 115, 116, 45, 114, 101, 118, 97, 108, 105, 100, 97, 116, 101]⟩, .string ⟨#[115, 45, 109, 97, 120, 97, 103, 101, 61, 57]⟩, .string ⟨#[112, 114, 111, 120, 121, 45, 114, 101, 118, 97, 108, 105, 100, 97, 116, 101]⟩] 9)); have HEx := Lib.hid (HE9.out.alloc (.cells #[.string ⟨#[112, 117, 98, 108, 105, 99]⟩, .string ⟨#[109, 117, 115, 116, 45, 114, 101, 118, 97, 108, 105, 100, 97, 116, 101]⟩, .string ⟨#[115, 45, 109, 97, 120, 97, 103, 101, 61, 57]⟩, .string ⟨#[112, 114, 111, 120, 121, 45, 114, 101, 118, 97, 108, 105, 100, 97, 116, 101]⟩] 9))
    have HR7x := Lib.hid (HR79.out.alloc (.cells #[.string ⟨#[112, 117, 98, 108, 105, 99]⟩, .string ⟨#[109, 117, 115, 116, 45, 114, 101, 118, 97, 108, 105, 100, 97, 116, 101]⟩, .string ⟨#[115, 45, 109, 97, 120, 97, 103, 101, 61, 57]⟩, .string ⟨#[112, 114, 111, 120, 121, 45, 114, 101, 118, 97, 108, 105, 100, 97, 116, 101]⟩] 9)); have HR8x := Lib.hid (HR89.out.alloc (.cells #[.string ⟨#[112, 117, 98, 108, 105, 99]⟩, .string ⟨#[109, 117, 115, 116, 45, 114, 101, 118, 97, 108, 105, 100, 97, 116, 101]⟩, .string ⟨#[115, 45, 109, 97, 120, 97, 103, 101, 61, 57]⟩, .string ⟨#[112, 114, 111, 120, 121, 45, 114, 101, 118, 97, 108, 105, 100, 97, 116, 101]⟩] 9))
    have x2 : (w9.alloc (.cells #[.string ⟨#[112, 117, 98, 108, 105, 99]⟩, .string ⟨#[109, 117, 115, 116, 45, 114, 101, 118, 97, 108, 105, 100, 97, 116, 101]⟩, .string ⟨#[115, 45, 109, 97, 120, 97, 103, 101, 61, 57]⟩, .string ⟨#[112, 114, 111, 120, 121, 45, 114, 101, 118, 97, 108, 105, 100, 97, 116, 101]⟩] 9)).cell? ⟨b, 2, none⟩ = some (.slice Ar nr cr) := HBx.out.cell 2
    have x3 : ((w9.alloc (.cells #[.string ⟨#[112, 117, 98, 108, 105, 99]⟩, .string ⟨#[109, 117, 115, 116, 45, 114, 101, 118, 97, 108, 105, 100, 97, 116, 101]⟩, .string ⟨#[115, 45, 109, 97, 120, 97, 103, 101, 61, 57]⟩, .string ⟨#[112, 114, 111, 120, 121, 45, 114, 101, 118, 97, 108, 105, 100, 97, 116, 101]⟩] 9)).alloc (.cells #[] 28)).cell? ⟨b, 2, none⟩ = some (.slice Ar nr cr) := (HBx.out.alloc (.cells #[] 28)).cell 2
    have hownx := own_made_at (w := (w9.alloc (.cells #[.string ⟨#[112, 117, 98, 108, 105, 99]⟩, .string ⟨#[109, 117, 115, 116, 45, 114, 101, 118, 97, 108, 105, 100, 97, 116, 101]⟩, .string ⟨#[115, 45, 109, 97, 120, 97, 103, 101, 61, 57]⟩, .string ⟨#[112, 114, 111, 120, 121, 45, 114, 101, 118, 97, 108, 105, 100, 97, 116, 101]⟩] 9))) (e := 28) (b := w9.heap.size + 1) (by rw [World.size_alloc])
    have hsx : (w9.alloc (.cells #[.string ⟨#[112, 117, 98, 108, 105, 99]⟩, .string ⟨#[109, 117, 115, 116, 45, 114, 101, 118, 97, 108, 105, 100, 97, 116, 101]⟩, .string ⟨#[115, 45, 109, 97, 120, 97, 103, 101, 61, 57]⟩, .string ⟨#[112, 114, 111, 120, 121, 45, 114, 101, 118, 97, 108, 105, 100, 97, 116, 101]⟩] 9)).heap.size = w9.heap.size + 1 := World.size_alloc _ _
    have hRr := hfr.ext HEx.out
    clear HB9 HD9 HE9 HR79 HR89 HB8 HD8 HE8 HR7 HR8 Hd8
    have HRr := Lib.hid hRr; clear hRr
    go_wp2_with (first
      | (at_builtin; refine wpList_app _ rfl (.tmp 63) (.tmp 65) 22 rfl (w9.alloc (.cells #[.string ⟨#[112, 117, 98, 108, 105, 99]⟩, .string ⟨#[109, 117, 115, 116, 45, 114, 101, 118, 97, 108, 105, 100, 97, 116, 101]⟩, .string ⟨#[115, 45, 109, 97, 120, 97, 103, 101, 61, 57]⟩, .string ⟨#[112, 114, 111, 120, 121, 45, 114, 101, 118, 97, 108, 105, 100, 97, 116, 101]⟩] 9)) 28 _ 2 32 Tryd.underlying22 infoRfd rfl (by decide) _ _ _ rfl hownx Ar nr cr (fldCells rp) rfl (HRr.out.alloc _) (fldCells_one _) ((Ext.refl _).alloc _) (by omega) (by decide) ?_; intro A10 c10 w10 hown10 hb10 hle10; rw [Nat.zero_add] at hown10 hle10 ⊢; rw [List.nil_append] at hown10)
      | (at_builtin; refine wpList_app _ rfl (.tmp 66) (.tmp 69) 22 rfl (w9.alloc (.cells #[.string ⟨#[112, 117, 98, 108, 105, 99]⟩, .string ⟨#[109, 117, 115, 116, 45, 114, 101, 118, 97, 108, 105, 100, 97, 116, 101]⟩, .string ⟨#[115, 45, 109, 97, 120, 97, 103, 101, 61, 57]⟩, .string ⟨#[112, 114, 111, 120, 121, 45, 114, 101, 118, 97, 108, 105, 100, 97, 116, 101]⟩] 9)) 28 _ 2 32 Tryd.underlying22 infoRfd rfl (by decide) _ _ _ rfl (hown10.alloc _) _ 1 1 (fldCells [(ccN, wv)]) rfl (Rd.two _ _ _ _ (by simp)) (fldCells_one _) (hb10.alloc _) (by omega) (by decide) ?_; intro A11 c11 w11 hown11 hb11 hle11; have j1 : w11.cell? ⟨b, 2, none⟩ = some (.slice Ar nr cr) := (HBx.out.ext hb11).cell 2; have j2 : w11.frozen? ⟨b, 2, none⟩ = false := (HBx.out.ext hb11).frozen 2; have j3 : (w11.setCell ⟨b, 2, none⟩ (.slice A11 (nr + 1) c11)).cell? ⟨d, 2, none⟩ = some (.slice Ar nr cr) := ((HDx.out.ext hb11).far (p := ⟨b, 2, none⟩) hne2 (.slice A11 (nr + 1) c11)).cell 2; have j4 : (w11.setCell ⟨b, 2, none⟩ (.slice A11 (nr + 1) c11)).frozen? ⟨d, 2, none⟩ = false := ((HDx.out.ext hb11).far (p := ⟨b, 2, none⟩) hne2 (.slice A11 (nr + 1) c11)).frozen 2))
    have hXb := (ExtB.refl b w11).set_ 2 (.slice A11 (nr + 1) c11)
    have hXd := (ExtB.refl d (w11.setCell ⟨b, 2, none⟩ (.slice A11 (nr + 1) c11))).set_ 2 (.slice A11 (nr + 1) c11)
    have HBy := Lib.hid (((HBx.out.ext hb11).set_ 2 (.slice A11 (nr + 1) c11)).far (p := ⟨d, 2, none⟩) hne (.slice A11 (nr + 1) c11))
    have HDy := Lib.hid (((HDx.out.ext hb11).far (p := ⟨b, 2, none⟩) hne2 (.slice A11 (nr + 1) c11)).set_ 2 (.slice A11 (nr + 1) c11))
    have HEy := Lib.hid (((HEx.out.trans hb11).growB hXb Hwb.out).growB hXd (by have := Hwb.out; omega))
    rw [← fldCells_app] at hown11
    have hfar := own_far hown11
    have HRy := Lib.hid (Rd.growB (Rd.growB (Rd.of_own hown11) hXb (fun a ha => by have h1 := hfar a ha; have h2 := Hd9.out; omega)) hXd (fun a ha => by have h1 := hfar a ha; have h2 := Hd9.out; omega))
    have HR7y := Lib.hid (Rd.growB (Rd.growB (HR7x.out.ext hb11) hXb (fun a ha => (HL8.out a ha).1.symm)) hXd (fun a ha => (HL8.out a ha).2.symm))
    have HR8y := Lib.hid (Rd.growB (Rd.growB (HR8x.out.ext hb11) hXb (fun a ha => (Hlo.out a ha).1.symm)) hXd (fun a ha => (Hlo.out a ha).2.symm))
    clear hown11 hown10 hownx hb10 hb11 hXb hXd hfar HBx HDx HEx HR7x HR8x HRr j1 j2 j3 j4 x2 x3 hsx hl0
    generalize (w11.setCell ⟨b, 2, none⟩ (.slice A11 (nr + 1) c11)).setCell ⟨d, 2, none⟩ (.slice A11 (nr + 1) c11) = WY at *
    have HC := Lib.hid (show ∀ w', Ext WY w' → (w'.cell? ⟨b, 0, none⟩ = some (.string me) ∧ w'.cell? ⟨b, 1, none⟩ = some (.slice A7 (n3 + 1) c7) ∧ w'.cell? ⟨b, 2, none⟩ = some (.slice A11 (nr + 1) c11) ∧ w'.cell? ⟨b, 3, none⟩ = some (.int .i64 st) ∧ w'.cell? ⟨d, 0, none⟩ = some (.string me) ∧ w'.cell? ⟨d, 1, none⟩ = some (.slice A3 n3 c3) ∧ w'.cell? ⟨d, 2, none⟩ = some (.slice A11 (nr + 1) c11) ∧ w'.cell? ⟨d, 3, none⟩ = some (.int .i64 st)) from fun w' h => ⟨(HBy.out.ext h).cell 0, (HBy.out.ext h).cell 1, (HBy.out.ext h).cell 2, (HBy.out.ext h).cell 3, (HDy.out.ext h).cell 0, (HDy.out.ext h).cell 1, (HDy.out.ext h).cell 2, (HDy.out.ext h).cell 3⟩)
    have hsv := Hsv.out
    have hs1 : sumF [(ccN, wv)] = 13 + wv.size := by simp [sumF]; rfl
    have HO1 := Lib.hid (fun w' (h : Ext WY w') => law15_of me A7 (n3 + 1) c7 (RQ ++ [(auN, ⟨#[120]⟩)]) A11 (nr + 1) c11 (rp ++ [(ccN, wv)]) st w' (HR7y.out.ext h) (HRy.out.ext h) (by omega) (by omega) (bsz_add HZ3.out (by decide) (by decide)) (bsz_add HZ.out.2 (by decide) (by omega)) (hg.ext (HEy.out.trans h)) (by rw [sumF_app15, hs1]; omega) (hgl.ext (HEy.out.trans h)))
    have HO2 := Lib.hid (fun w' (h : Ext WY w') => law15_of me A3 n3 c3 RQ A11 (nr + 1) c11 (rp ++ [(ccN, wv)]) st w' (HR8y.out.ext h) (HRy.out.ext h) (by omega) (by omega) HZ3.out (bsz_add HZ.out.2 (by decide) (by omega)) (hg.ext (HEy.out.trans h)) (by rw [sumF_app15, hs1]; omega) (hgl.ext (HEy.out.trans h)))
    rw [← Hal.out.1] at HO2
    have h7 := Hal.out.2
    clear Hal
    generalize rsS (isG me) (RQ ++ [(auN, ⟨#[120]⟩)]) st (rp ++ [(ccN, wv)]) = N2 at *
    have hE := (Ext.refl WY).drew
    refine wp_region_held_drew (S := (fun w' => w'.cell? ⟨b, 0, none⟩ = some (.string me) ∧ w'.cell? ⟨b, 1, none⟩ = some (.slice A7 (n3 + 1) c7) ∧ w'.cell? ⟨b, 2, none⟩ = some (.slice A11 (nr + 1) c11) ∧ w'.cell? ⟨b, 3, none⟩ = some (.int .i64 st) ∧ w'.cell? ⟨d, 0, none⟩ = some (.string me) ∧ w'.cell? ⟨d, 1, none⟩ = some (.slice A3 n3 c3) ∧ w'.cell? ⟨d, 2, none⟩ = some (.slice A11 (nr + 1) c11) ∧ w'.cell? ⟨d, 3, none⟩ = some (.int .i64 st))) (by kernel_rfl) ?_ (fun hHeld => ?_)
    · (try dsimp only); exact HC.out _ hE
    refine wpAnyH_take (i := 0) (oi := { dst := some 75, op := _, type := _, pos := _, after := _, guard := _ }) (v := ?_) rfl (by kernel_rfl) (by kernel_rfl) (by kernel_rfl) (fun _ _ _ h => h) (Or.inl ⟨by rfl, ?_⟩) (by assumption) ?_
    rotate_left
    · (intro w hSw; (try dsimp only at hSw); go_simp; (try with_reducible rfl))
    (try simp only [Act.put, List.setIfInBounds_toArray, List.set_cons_zero, List.set_cons_succ])
    refine wpAnyH_take (i := 2) (oi := { dst := some 77, op := _, type := _, pos := _, after := _, guard := _ }) (v := ?_) rfl (by kernel_rfl) (by kernel_rfl) (by kernel_rfl) (fun _ _ _ h => h) (Or.inl ⟨by rfl, ?_⟩) (by assumption) ?_
    rotate_left
    · (intro w hSw; (try dsimp only at hSw); go_simp; (try with_reducible rfl))
    (try simp only [Act.put, List.setIfInBounds_toArray, List.set_cons_zero, List.set_cons_succ])
    refine wpAnyH_ready (rs := [1]) (by kernel_rfl) (by simp) ?_
    refine AllReadyH.cons (o := { dst := some 76, op := _, type := _, pos := _, after := _, guard := _ }) rfl (fun K hK => ?_) AllReadyH.nil
    go_simp
    refine (HO1.out _ hE).mono ?_; rintro e w11 ⟨rfl, hb21⟩; replace hE := hE.trans hb21; clear hb21
    try go_wp2_with fail
    refine hK.out _ _ ?_ (fun hHeld => ?_)
    · (try dsimp only); exact HC.out _ hE
    clear hK K
    (try simp only [Act.put, List.setIfInBounds_toArray, List.set_cons_zero, List.set_cons_succ])
    refine wpAnyH_ready (rs := [3]) (by kernel_rfl) (by simp) ?_
    refine AllReadyH.cons (o := { dst := some 78, op := _, type := _, pos := _, after := _, guard := _ }) rfl (fun K hK => ?_) AllReadyH.nil
    go_simp
    refine (HO2.out _ hE).mono ?_; rintro e w13 ⟨rfl, hb23⟩; replace hE := hE.trans hb23; clear hb23
    try go_wp2_with fail
    refine hK.out _ _ ?_ (fun hHeld => ?_)
    · (try dsimp only); exact HC.out _ hE
    clear hK K
    (try simp only [Act.put, List.setIfInBounds_toArray, List.set_cons_zero, List.set_cons_succ])
    refine wpAnyH_take (i := 4) (oi := { dst := some 79, op := _, type := _, pos := _, after := _, guard := _ }) (v := ?_) rfl (by kernel_rfl) (by kernel_rfl) (by kernel_rfl) (fun _ _ _ h => h) (Or.inl ⟨by rfl, ?_⟩) (by assumption) ?_
    rotate_left
    · (intro w hSw; (try dsimp only at hSw); go_simp; (try with_reducible rfl))
    (try simp only [Act.put, List.setIfInBounds_toArray, List.set_cons_zero, List.set_cons_succ])
    refine wpAnyH_take (i := 5) (oi := { dst := some 80, op := _, type := _, pos := _, after := _, guard := _ }) (v := ?_) rfl (by kernel_rfl) (by kernel_rfl) (by kernel_rfl) (fun _ _ _ h => h) (Or.inl ⟨by rfl, ?_⟩) (by assumption) ?_
    rotate_left
    · (intro w hSw; (try dsimp only at hSw); go_simp; (try with_reducible rfl))
    (try simp only [Act.put, List.setIfInBounds_toArray, List.set_cons_zero, List.set_cons_succ])
    refine wpAnyH_take (i := 6) (oi := { dst := some 81, op := _, type := _, pos := _, after := _, guard := _ }) (v := ?_) rfl (by kernel_rfl) (by kernel_rfl) (by kernel_rfl) (fun _ _ _ h => h) (Or.inl ⟨by rfl, ?_⟩) (by assumption) ?_
    rotate_left
    · (intro w hSw; (try dsimp only at hSw); go_simp; (try with_reducible rfl))
    (try simp only [Act.put, List.setIfInBounds_toArray, List.set_cons_zero, List.set_cons_succ])
    refine wpAnyH_ready (rs := [7]) (by kernel_rfl) (by simp) ?_
    refine AllReadyH.cons (o := { dst := some 82, op := _, type := _, pos := _, after := _, guard := _ }) rfl (fun K hK => ?_) AllReadyH.nil
    go_simp
    refine (HO1.out _ hE).mono ?_; rintro e w17 ⟨rfl, hb27⟩; replace hE := hE.trans hb27; clear hb27
    try go_wp2_with fail
    refine hK.out _ _ ?_ (fun hHeld => ?_)
    · (try dsimp only); exact HC.out _ hE
    clear hK K
    (try simp only [Act.put, List.setIfInBounds_toArray, List.set_cons_zero, List.set_cons_succ])
    refine wpAnyH_take (i := 8) (oi := { dst := some 83, op := _, type := _, pos := _, after := _, guard := _ }) (v := ?_) rfl (by kernel_rfl) (by kernel_rfl) (by kernel_rfl) (fun _ _ _ h => h) (Or.inl ⟨by rfl, ?_⟩) (by assumption) ?_
    rotate_left
    · (intro w hSw; (try dsimp only at hSw); go_simp; (try with_reducible rfl))
    (try simp only [Act.put, List.setIfInBounds_toArray, List.set_cons_zero, List.set_cons_succ])
    refine wpAnyH_take (i := 9) (oi := { dst := some 84, op := _, type := _, pos := _, after := _, guard := _ }) (v := ?_) rfl (by kernel_rfl) (by kernel_rfl) (by kernel_rfl) (fun _ _ _ h => h) (Or.inl ⟨by rfl, ?_⟩) (by assumption) ?_
    rotate_left
    · (intro w hSw; (try dsimp only at hSw); go_simp; (try with_reducible rfl))
    (try simp only [Act.put, List.setIfInBounds_toArray, List.set_cons_zero, List.set_cons_succ])
    refine wpAnyH_take (i := 10) (oi := { dst := some 4, op := _, type := _, pos := _, after := _, guard := _ }) (v := ?_) rfl (by kernel_rfl) (by kernel_rfl) (by kernel_rfl) (fun _ _ _ h => h) (Or.inl ⟨by rfl, ?_⟩) (by assumption) ?_
    rotate_left
    · (intro w hSw; (try dsimp only at hSw); go_simp; (try with_reducible rfl))
    (try simp only [Act.put, List.setIfInBounds_toArray, List.set_cons_zero, List.set_cons_succ])
    refine wpAnyH_done (by kernel_rfl) ?_ _
    go_wp2_with fail
    go_ret
    exact ⟨ret_b (by simp [h7]), HEy.out.trans hE⟩

end Go.Proofs.YtphgaommokgfcaaDoor

namespace Go.Proofs.YtphgaommokgfcaaDoor
open Go.RowKit

theorem one15_get (rq : List Fd) (st : Int) (rp : List Fd) : rsS (isG ⟨#[103, 101, 116]⟩) rq st rp = 1 := by
  rw [show isG ⟨#[103, 101, 116]⟩ = false from by decide +kernel]; rfl
theorem infoCs : (Tryd.prog.info? 24).map (·.size) = some 4 := by kernel_rfl
theorem isG_iff {m : ByteArray} (h : isG m = false) (rq : List Fd) (st : Int) (rp : List Fd) : rsS (isG m) rq st rp = 1 := by rw [h]; rfl
theorem loud_sz {B : Nat} {fs : List Fd} (h : Bsz B fs) : Bsz B (loudS fs) := by
  intro f hf
  obtain ⟨g, hg, rfl⟩ := List.mem_map.1 hf
  refine ⟨?_, (h g hg).2⟩
  have h1 := (h g hg).1
  have h2 : (upS (lowS g.1)).size = (lowS g.1).size := by
    show ((lowS g.1).data.toList.map upC).toArray.size = (lowS g.1).data.size
    simp
  show (upS (lowS g.1)).size ≤ B
  rw [h2, lowS_size]; exact h1
theorem loud_sum : ∀ fs : List Fd, sumF (loudS fs) = sumF fs
  | [] => rfl
  | f :: l => by
    have ih := loud_sum l
    have h2 : (upS (lowS f.1)).size = f.1.size := by
      rw [← lowS_size f.1]
      show ((lowS f.1).data.toList.map upC).toArray.size = (lowS f.1).data.size
      simp
    show sumF ((upS (lowS f.1), f.2) :: loudS l) = _
    simp only [sumF, List.map_cons, List.sum_cons] at ih ⊢
    omega
set_option maxHeartbeats 16000000 in
set_option maxRecDepth 100000 in
theorem methods_walk (me : ByteArray) (Aq : Option Addr) (nq cq : Nat) (rq : List Fd) (Ar : Option Addr) (nr cr : Nat) (rp : List Fd) (st : Int) (w : World) (hfq : RdF w Aq nq rq) (hfr : RdF w Ar nr rp) (hbq : rq.length + sumF rq ≤ 1048576) (hbr : rp.length + sumF rp ≤ 1048576) (hg : GlH w) (hgl : Gl w) :
    Calls Tryd.prog 5 #[.agg #[.string me, .slice Aq nq cq, .slice Ar nr cr, .int .i64 st]] w fun e w' => e = .returned (.bool true) ∧ Ext w w' := by
  have hE0 := (Ext.refl w).alloc (.cells #[.string me, .slice Aq nq cq, .slice Ar nr cr, .int .i64 st] 24)
  have HB := Lib.hid (Blk.new w 24 #[.string me, .slice Aq nq cq, .slice Ar nr cr, .int .i64 st])
  have HLg := Lib.hid (fun w' (h : Ext w w') => large_two Aq nq cq rq Ar nr cr rp w' (hfq.ext h) (hfr.ext h) hbq hbr)
  have Hno := Lib.hid (fun h => @large_no Aq nq cq rq Ar nr cr rp w hfq hfr h)
  have HE0 := Lib.hid hE0
  clear hE0 hbq hbr
  go_enter Tryd.func5, Tryd.ntmps5
  go_wp2_with fail
  refine (HLg.out _ HE0.out (w.heap.size + 1) (by rw [World.size_alloc])).mono ?_; rintro e w1 ⟨rfl, hb1⟩
  generalize decide (4000 < tot15 [((Aq, nq, cq), rq), ((Ar, nr, cr), rp)]) = lg at *
  generalize w.alloc (.cells #[.string me, .slice Aq nq cq, .slice Ar nr cr, .int .i64 st] 24) = W0 at *
  have HB1 := Lib.hid (HB.out.ext hb1)
  have hw1 := HE0.out.trans hb1
  cases lg
  rotate_left
  · generalize w.heap.size = b at *
    have s1 : w1.cell? ⟨b, 1, none⟩ = some (.slice Aq nq cq) := HB1.out.cell 1
    have s2 : w1.cell? ⟨b, 2, none⟩ = some (.slice Ar nr cr) := HB1.out.cell 2
    go_wp2_with fail
    refine (HLg.out _ hw1 _ rfl).mono ?_; rintro e w2 ⟨rfl, hb2⟩
    go_wp2_with fail
    go_ret
    exact ⟨rfl, hw1.trans hb2⟩
  obtain ⟨hnq, hnr, hsq, hsr, hzq, hzr⟩ := Hno.out rfl
  have HZ := Lib.hid (⟨hzq.mono (by decide), hzr.mono (by decide)⟩ : Bsz 1048576 rq ∧ Bsz 1048576 rp)
  clear Hno HLg hzq hzr
  go_wp2_with fail
  refine (law15_awake _ (hg.ext hw1) (hgl.ext hw1)).mono ?_; rintro e w2 ⟨rfl, hb2⟩
  have HB2 := Lib.hid (HB1.out.ext hb2)
  have HE2 := Lib.hid (hw1.trans hb2)
  clear HB HB1 HE0 hb1 hb2 hw1
  have hbw := HB2.out.lt
  generalize hbs : w.heap.size = b at *
  have Hwb := Lib.hid (Nat.le_of_eq hbs)
  clear hbs
  have c0 : w2.cell? ⟨b, 0, none⟩ = some (.string me) := HB2.out.cell 0
  have c1 : w2.cell? ⟨b, 1, none⟩ = some (.slice Aq nq cq) := HB2.out.cell 1
  have c2 : w2.cell? ⟨b, 2, none⟩ = some (.slice Ar nr cr) := HB2.out.cell 2
  have c3 : w2.cell? ⟨b, 3, none⟩ = some (.int .i64 st) := HB2.out.cell 3
  have z0 := HB2.out.frozen
  have HO := Lib.hid (fun (m : ByteArray) w' (h : Ext w w') => law15_of m Aq nq cq rq Ar nr cr rp st w' (hfq.ext h) (hfr.ext h) (by omega) (by omega) HZ.out.1 HZ.out.2 (hg.ext h) (by omega) (hgl.ext h))
  have HG := Lib.hid (⟨hg, hgl⟩ : _ ∧ _)
  have HLq := Lib.hid (fun w' (h : Ext w w') => law15_loud Aq nq cq rq w' (hfq.ext h) (by omega) HZ.out.1)
  have HLr := Lib.hid (fun w' (h : Ext w w') => law15_loud Ar nr cr rp w' (hfr.ext h) (by omega) HZ.out.2)
  have Hg1 := Lib.hid (@isG_iff me)
  have hgm : (me.toList == [71, 69, 84]) = isG me := rfl
  clear hfq hfr hg hgl z0
  cases hG : isG me
  · rw [hG] at hgm
    have H1 := Lib.hid (Hg1.out hG rq st rp)
    clear hG Hg1
    go_wp2_with fail
    have hM := HO.out me _ HE2.out
    rw [H1.out] at hM
    refine hM.mono ?_; rintro e w3 ⟨rfl, hb3⟩
    clear hM
    have HB3 := Lib.hid (HB2.out.ext hb3)
    have HE3 := Lib.hid (HE2.out.trans hb3)
    clear HB2 HE2 hb3 c0 c1 c2 c3
    have hbw3 := HB3.out.lt
    clear hbw
    have HB := Lib.hid HB3.out; have HE := Lib.hid HE3.out; clear HB3 HE3
    generalize w3 = W3 at *
    have hlt3 := HB.out.lt
    have a0 : W3.cell? ⟨b, 0, none⟩ = some (.string me) := HB.out.cell 0
    have a1 : W3.cell? ⟨b, 1, none⟩ = some (.slice Aq nq cq) := HB.out.cell 1
    have a2 : W3.cell? ⟨b, 2, none⟩ = some (.slice Ar nr cr) := HB.out.cell 2
    have a3 : W3.cell? ⟨b, 3, none⟩ = some (.int .i64 st) := HB.out.cell 3
    have az := HB.out.frozen 0
    go_wp2_with fail
    have HBd := Lib.hid (Blk.new W3 24 #[.string ⟨#[103, 101, 116]⟩, .slice Aq nq cq, .slice Ar nr cr, .int .i64 st])
    have HEd := Lib.hid (HE.out.alloc (.cells #[.string ⟨#[103, 101, 116]⟩, .slice Aq nq cq, .slice Ar nr cr, .int .i64 st] 24))
    have HBc := Lib.hid (HB.out.alloc (.cells #[.string ⟨#[103, 101, 116]⟩, .slice Aq nq cq, .slice Ar nr cr, .int .i64 st] 24))
    clear HB HE a0 a1 a2 a3 az
    generalize W3.alloc (.cells #[.string ⟨#[103, 101, 116]⟩, .slice Aq nq cq, .slice Ar nr cr, .int .i64 st] 24) = Wd at *
    generalize W3.heap.size = d at *
    have hne : b ≠ d := by omega
    have hne2 : d ≠ b := by omega
    have hM := HO.out ⟨#[103, 101, 116]⟩ _ HEd.out
    rw [one15_get] at hM
    refine hM.mono ?_; rintro e w4 ⟨rfl, hb4⟩
    clear hM
    have HBd4 := Lib.hid (HBd.out.ext hb4); have HBc4 := Lib.hid (HBc.out.ext hb4); have HE4 := Lib.hid (HEd.out.trans hb4)
    clear HBd HBc HEd hb4
    have hYc : Blk (w4.setCell ⟨b, 0, none⟩ (.string ⟨#[71, 69, 84]⟩)) b 24 #[.string ⟨#[71, 69, 84]⟩, .slice Aq nq cq, .slice Ar nr cr, .int .i64 st] := HBc4.out.set_ 0 (.string ⟨#[71, 69, 84]⟩)
    have hYd : Blk (w4.setCell ⟨b, 0, none⟩ (.string ⟨#[71, 69, 84]⟩)) d 24 #[.string ⟨#[103, 101, 116]⟩, .slice Aq nq cq, .slice Ar nr cr, .int .i64 st] := HBd4.out.far (p := ⟨b, 0, none⟩) hne2 (.string ⟨#[71, 69, 84]⟩)
    have HE5 := Lib.hid (HE4.out.growB ((ExtB.refl b w4).set_ 0 (.string ⟨#[71, 69, 84]⟩)) Hwb.out)
    have m0 : w4.cell? ⟨b, 0, none⟩ = some (.string me) := HBc4.out.cell 0
    have mz : w4.frozen? ⟨b, 0, none⟩ = false := HBc4.out.frozen 0
    have n0 : (w4.setCell ⟨b, 0, none⟩ (.string ⟨#[71, 69, 84]⟩)).cell? ⟨b, 0, none⟩ = some (.string ⟨#[71, 69, 84]⟩) := hYc.cell 0
    have n1 : (w4.setCell ⟨b, 0, none⟩ (.string ⟨#[71, 69, 84]⟩)).cell? ⟨b, 1, none⟩ = some (.slice Aq nq cq) := hYc.cell 1
    have n2 : (w4.setCell ⟨b, 0, none⟩ (.string ⟨#[71, 69, 84]⟩)).cell? ⟨b, 2, none⟩ = some (.slice Ar nr cr) := hYc.cell 2
    have n3 : (w4.setCell ⟨b, 0, none⟩ (.string ⟨#[71, 69, 84]⟩)).cell? ⟨b, 3, none⟩ = some (.int .i64 st) := hYc.cell 3
    clear HBd4 HBc4 HE4
    have HYc := Lib.hid hYc; have HYd := Lib.hid hYd; clear hYc hYd
    go_wp2_with (first | (refine wpList_storeB rfl 24 (.tmp 3) (.tmp 34) rfl rfl d _ rfl rfl 24 _ HYd.out infoCs rfl (by simp [Value.oneCell']) ?_; intro w5 hB5 hX5))
    have HBe := Lib.hid hB5; have HBb := Lib.hid (HYc.out.grown hX5 (by simp; omega)); have HE6 := Lib.hid (HE5.out.growB hX5 (by have := Hwb.out; omega))
    clear hB5 hX5 HYc HYd HE5 n0 n1 n2 n3 m0 mz
    have hdw := HBe.out.lt
    have Hdw := Lib.hid hdw
    have HC := Lib.hid (show ∀ w', Ext w5 w' → (w'.cell? ⟨b, 1, none⟩ = some (.slice Aq nq cq) ∧ w'.cell? ⟨b, 2, none⟩ = some (.slice Ar nr cr)) from fun w' h => ⟨(HBb.out.ext h).cell 1, (HBb.out.ext h).cell 2⟩)
    have hE := (Ext.refl w5).drew
    refine wp_region_held_drew (S := (fun w' => w'.cell? ⟨b, 1, none⟩ = some (.slice Aq nq cq) ∧ w'.cell? ⟨b, 2, none⟩ = some (.slice Ar nr cr))) (by kernel_rfl) ?_ (fun hHeld => ?_)
    · (try dsimp only); exact HC.out _ hE
    refine wpAnyH_take (i := 0) (oi := { dst := some 35, op := _, type := _, pos := _, after := _, guard := _ }) (v := ?_) rfl (by kernel_rfl) (by kernel_rfl) (by kernel_rfl) (fun _ _ _ h => h) (Or.inl ⟨by rfl, ?_⟩) (by assumption) ?_
    rotate_left
    · (intro w hSw; (try dsimp only at hSw); go_simp; (try with_reducible rfl))
    (try simp only [Act.put, List.setIfInBounds_toArray, List.set_cons_zero, List.set_cons_succ])
    refine wpAnyH_take (i := 1) (oi := { dst := some 36, op := _, type := _, pos := _, after := _, guard := _ }) (v := ?_) rfl (by kernel_rfl) (by kernel_rfl) (by kernel_rfl) (fun _ _ _ h => h) (Or.inl ⟨by rfl, ?_⟩) (by assumption) ?_
    rotate_left
    · (intro w hSw; (try dsimp only at hSw); go_simp; (try with_reducible rfl))
    (try simp only [Act.put, List.setIfInBounds_toArray, List.set_cons_zero, List.set_cons_succ])
    refine wpAnyH_take (i := 3) (oi := { dst := some 38, op := _, type := _, pos := _, after := _, guard := _ }) (v := ?_) rfl (by kernel_rfl) (by kernel_rfl) (by kernel_rfl) (fun _ _ _ h => h) (Or.inl ⟨by rfl, ?_⟩) (by assumption) ?_
    rotate_left
    · (intro w hSw; (try dsimp only at hSw); go_simp; (try with_reducible rfl))
    (try simp only [Act.put, List.setIfInBounds_toArray, List.set_cons_zero, List.set_cons_succ])
    refine wpAnyH_take (i := 4) (oi := { dst := some 39, op := _, type := _, pos := _, after := _, guard := _ }) (v := ?_) rfl (by kernel_rfl) (by kernel_rfl) (by kernel_rfl) (fun _ _ _ h => h) (Or.inl ⟨by rfl, ?_⟩) (by assumption) ?_
    rotate_left
    · (intro w hSw; (try dsimp only at hSw); go_simp; (try with_reducible rfl))
    (try simp only [Act.put, List.setIfInBounds_toArray, List.set_cons_zero, List.set_cons_succ])
    refine wpAnyH_ready (rs := [2]) (by kernel_rfl) (by simp) ?_
    refine AllReadyH.cons (o := { dst := some 37, op := _, type := _, pos := _, after := _, guard := _ }) rfl (fun K hK => ?_) AllReadyH.nil
    go_simp
    refine (HLq.out _ (HE6.out.trans hE)).mono ?_; rintro e w6 ⟨A2, c2, rfl, hr2, hk2, hb6, hlo2⟩; have hlo2 := fun a ha => Nat.le_trans hE.size (hlo2 a ha); replace hE := hE.trans hb6; clear hb6
    try go_wp2_with fail
    refine hK.out _ _ ?_ (fun hHeld => ?_)
    · (try dsimp only); exact HC.out _ hE
    clear hK K
    (try simp only [Act.put, List.setIfInBounds_toArray, List.set_cons_zero, List.set_cons_succ])
    refine wpAnyH_take (i := 6) (oi := { dst := some 41, op := _, type := _, pos := _, after := _, guard := _ }) (v := ?_) rfl (by kernel_rfl) (by kernel_rfl) (by kernel_rfl) (fun _ _ _ h => h) (Or.inl ⟨by rfl, ?_⟩) (by assumption) ?_
    rotate_left
    · (intro w hSw; (try dsimp only at hSw); go_simp; (try with_reducible rfl))
    (try simp only [Act.put, List.setIfInBounds_toArray, List.set_cons_zero, List.set_cons_succ])
    refine wpAnyH_ready (rs := [5]) (by kernel_rfl) (by simp) ?_
    refine AllReadyH.cons (o := { dst := some 40, op := _, type := _, pos := _, after := _, guard := _ }) rfl (fun K hK => ?_) AllReadyH.nil
    go_simp
    refine (HLr.out _ (HE6.out.trans hE)).mono ?_; rintro e w7 ⟨A3, c3, rfl, hr3, hk3, hb7, hlo3⟩; have hlo3 := fun a ha => Nat.le_trans hE.size (hlo3 a ha); replace hE := hE.trans hb7; replace hr2 := hr2.ext hb7; clear hb7
    try go_wp2_with fail
    refine hK.out _ _ ?_ (fun hHeld => ?_)
    · (try dsimp only); exact HC.out _ hE
    clear hK K
    (try simp only [Act.put, List.setIfInBounds_toArray, List.set_cons_zero, List.set_cons_succ])
    refine wpAnyH_ready (rs := [7]) (by kernel_rfl) (by simp) ?_
    refine AllReadyH.cons (o := { dst := none, op := _, type := _, pos := _, after := _, guard := _ }) rfl (fun K hK => ?_) AllReadyH.nil
    have y1 := (HBe.out.ext hE).cell 1; have yz := (HBe.out.ext hE).frozen 1
    go_simp
    skip
    try go_wp2_with fail
    refine hK.out _ _ ?_ (fun hHeld => ?_)
    · (try dsimp only); (have hX := (HBb.out.ext hE).far (p := ⟨d, 1, none⟩) hne (.slice A2 nq c2); exact ⟨hX.cell 1, hX.cell 2⟩)
    clear hK K
    (try simp only [Act.put, List.setIfInBounds_toArray, List.set_cons_zero, List.set_cons_succ])
    refine wpAnyH_take (i := 8) (oi := { dst := some 42, op := _, type := _, pos := _, after := _, guard := _ }) (v := ?_) rfl (by kernel_rfl) (by kernel_rfl) (by kernel_rfl) (fun _ _ _ h => h) (Or.inl ⟨by rfl, ?_⟩) (by assumption) ?_
    rotate_left
    · (intro w hSw; (try dsimp only at hSw); go_simp; (try with_reducible rfl))
    (try simp only [Act.put, List.setIfInBounds_toArray, List.set_cons_zero, List.set_cons_succ])
    refine wpAnyH_ready (rs := [9]) (by kernel_rfl) (by simp) ?_
    refine AllReadyH.cons (o := { dst := none, op := _, type := _, pos := _, after := _, guard := _ }) rfl (fun K hK => ?_) AllReadyH.nil
    have y2 := ((HBe.out.ext hE).set_ 1 (.slice A2 nq c2)).cell 2; have yz2 := ((HBe.out.ext hE).set_ 1 (.slice A2 nq c2)).frozen 2
    go_simp
    skip
    try go_wp2_with fail
    refine hK.out _ _ ?_ (fun hHeld => ?_)
    · (try dsimp only); (have hX := ((HBb.out.ext hE).far (p := ⟨d, 1, none⟩) hne (.slice A2 nq c2)).far (p := ⟨d, 2, none⟩) hne (.slice A3 nr c3); exact ⟨hX.cell 1, hX.cell 2⟩)
    clear hK K
    (try simp only [Act.put, List.setIfInBounds_toArray, List.set_cons_zero, List.set_cons_succ])
    refine wpAnyH_done (by kernel_rfl) ?_ _
    have hYd := ((HBe.out.ext hE).set_ 1 (.slice A2 nq c2)).set_ 2 (.slice A3 nr c3)
    have hYb := ((HBb.out.ext hE).far (p := ⟨d, 1, none⟩) hne (.slice A2 nq c2)).far (p := ⟨d, 2, none⟩) hne (.slice A3 nr c3)
    have hG := ((ExtB.refl d w7).set_ 1 (.slice A2 nq c2)).set_ 2 (.slice A3 nr c3)
    have HF := Lib.hid ((HE6.out.trans hE).growB hG (by have := Hwb.out; omega))
    have hR2 := Rd.growB hr2 hG (fun a ha => by have h1 := hlo2 a ha; have h2 := Hdw.out; have h3 : w5.drew.heap.size = w5.heap.size := rfl; omega)
    have hR3 := Rd.growB hr3 hG (fun a ha => by have h1 := hlo3 a ha; have h2 := Hdw.out; have h3 : w5.drew.heap.size = w5.heap.size := rfl; omega)
    clear hG hr2 hr3 hlo2 hlo3 hE HBe HBb HE6 HC Hdw hdw
    generalize (w7.setCell ⟨d, 1, none⟩ (.slice A2 nq c2)).setCell ⟨d, 2, none⟩ (.slice A3 nr c3) = W7 at *
    have HYd := Lib.hid hYd; have HYb := Lib.hid hYb; have HR2 := Lib.hid hR2; have HR3 := Lib.hid hR3
    clear hYd hYb hR2 hR3
    have HO1 := Lib.hid (fun w' (h : Ext W7 w') => HO.out ⟨#[71, 69, 84]⟩ w' (HF.out.trans h))
    have HO2 := Lib.hid (fun w' (h : Ext W7 w') => law15_of ⟨#[71, 69, 84]⟩ A2 nq c2 (loudS rq) A3 nr c3 (loudS rp) st w' (HR2.out.ext h) (HR3.out.ext h) (by omega) (by omega) (loud_sz HZ.out.1) (loud_sz HZ.out.2) (HG.out.1.ext (HF.out.trans h)) (by rw [loud_sum]; omega) (HG.out.2.ext (HF.out.trans h)))
    rw [rs_loud] at HO2
    generalize rsS (isG ⟨#[71, 69, 84]⟩) rq st rp = N at *
    clear HO HLq HLr HR2 HR3
    go_wp2_with fail
    have HC := Lib.hid (show ∀ w', Ext W7 w' → (w'.cell? ⟨b, 0, none⟩ = some (.string ⟨#[71, 69, 84]⟩) ∧ w'.cell? ⟨b, 1, none⟩ = some (.slice Aq nq cq) ∧ w'.cell? ⟨b, 2, none⟩ = some (.slice Ar nr cr) ∧ w'.cell? ⟨b, 3, none⟩ = some (.int .i64 st) ∧ w'.cell? ⟨d, 0, none⟩ = some (.string ⟨#[71, 69, 84]⟩) ∧ w'.cell? ⟨d, 1, none⟩ = some (.slice A2 nq c2) ∧ w'.cell? ⟨d, 2, none⟩ = some (.slice A3 nr c3) ∧ w'.cell? ⟨d, 3, none⟩ = some (.int .i64 st)) from fun w' h => ⟨(HYb.out.ext h).cell 0, (HYb.out.ext h).cell 1, (HYb.out.ext h).cell 2, (HYb.out.ext h).cell 3, (HYd.out.ext h).cell 0, (HYd.out.ext h).cell 1, (HYd.out.ext h).cell 2, (HYd.out.ext h).cell 3⟩)
    have hE := (Ext.refl W7).drew
    refine wp_region_held_drew (S := (fun w' => w'.cell? ⟨b, 0, none⟩ = some (.string ⟨#[71, 69, 84]⟩) ∧ w'.cell? ⟨b, 1, none⟩ = some (.slice Aq nq cq) ∧ w'.cell? ⟨b, 2, none⟩ = some (.slice Ar nr cr) ∧ w'.cell? ⟨b, 3, none⟩ = some (.int .i64 st) ∧ w'.cell? ⟨d, 0, none⟩ = some (.string ⟨#[71, 69, 84]⟩) ∧ w'.cell? ⟨d, 1, none⟩ = some (.slice A2 nq c2) ∧ w'.cell? ⟨d, 2, none⟩ = some (.slice A3 nr c3) ∧ w'.cell? ⟨d, 3, none⟩ = some (.int .i64 st))) (by kernel_rfl) ?_ (fun hHeld => ?_)
    · (try dsimp only); exact HC.out _ hE
    refine wpAnyH_take (i := 0) (oi := { dst := some 43, op := _, type := _, pos := _, after := _, guard := _ }) (v := ?_) rfl (by kernel_rfl) (by kernel_rfl) (by kernel_rfl) (fun _ _ _ h => h) (Or.inl ⟨by rfl, ?_⟩) (by assumption) ?_
    rotate_left
    · (intro w hSw; (try dsimp only at hSw); go_simp; (try with_reducible rfl))
    (try simp only [Act.put, List.setIfInBounds_toArray, List.set_cons_zero, List.set_cons_succ])
    refine wpAnyH_take (i := 2) (oi := { dst := some 45, op := _, type := _, pos := _, after := _, guard := _ }) (v := ?_) rfl (by kernel_rfl) (by kernel_rfl) (by kernel_rfl) (fun _ _ _ h => h) (Or.inl ⟨by rfl, ?_⟩) (by assumption) ?_
    rotate_left
    · (intro w hSw; (try dsimp only at hSw); go_simp; (try with_reducible rfl))
    (try simp only [Act.put, List.setIfInBounds_toArray, List.set_cons_zero, List.set_cons_succ])
    refine wpAnyH_ready (rs := [1]) (by kernel_rfl) (by simp) ?_
    refine AllReadyH.cons (o := { dst := some 44, op := _, type := _, pos := _, after := _, guard := _ }) rfl (fun K hK => ?_) AllReadyH.nil
    go_simp
    refine (HO1.out _ hE).mono ?_; rintro e w8 ⟨rfl, hb8⟩; replace hE := hE.trans hb8; clear hb8
    try go_wp2_with fail
    refine hK.out _ _ ?_ (fun hHeld => ?_)
    · (try dsimp only); exact HC.out _ hE
    clear hK K
    (try simp only [Act.put, List.setIfInBounds_toArray, List.set_cons_zero, List.set_cons_succ])
    refine wpAnyH_ready (rs := [3]) (by kernel_rfl) (by simp) ?_
    refine AllReadyH.cons (o := { dst := some 46, op := _, type := _, pos := _, after := _, guard := _ }) rfl (fun K hK => ?_) AllReadyH.nil
    go_simp
    refine (HO2.out _ hE).mono ?_; rintro e w9 ⟨rfl, hb9⟩; replace hE := hE.trans hb9; clear hb9
    try go_wp2_with fail
    refine hK.out _ _ ?_ (fun hHeld => ?_)
    · (try dsimp only); exact HC.out _ hE
    clear hK K
    (try simp only [Act.put, List.setIfInBounds_toArray, List.set_cons_zero, List.set_cons_succ])
    refine wpAnyH_take (i := 4) (oi := { dst := some 47, op := _, type := _, pos := _, after := _, guard := _ }) (v := ?_) rfl (by kernel_rfl) (by kernel_rfl) (by kernel_rfl) (fun _ _ _ h => h) (Or.inl ⟨by rfl, ?_⟩) (by assumption) ?_
    rotate_left
    · (intro w hSw; (try dsimp only at hSw); go_simp; (try with_reducible rfl))
    (try simp only [Act.put, List.setIfInBounds_toArray, List.set_cons_zero, List.set_cons_succ])
    refine wpAnyH_take (i := 5) (oi := { dst := some 2, op := _, type := _, pos := _, after := _, guard := _ }) (v := ?_) rfl (by kernel_rfl) (by kernel_rfl) (by kernel_rfl) (fun _ _ _ h => h) (Or.inl ⟨by rfl, ?_⟩) (by assumption) ?_
    rotate_left
    · (intro w hSw; (try dsimp only at hSw); go_simp; (try with_reducible rfl))
    (try simp only [Act.put, List.setIfInBounds_toArray, List.set_cons_zero, List.set_cons_succ])
    refine wpAnyH_done (by kernel_rfl) ?_ _
    go_wp2_with fail
    go_ret
    exact ⟨ret_b (by simp), HF.out.trans hE⟩
  · rw [hG] at hgm
    clear hG Hg1
    have HB := Lib.hid HB2.out; have HE := Lib.hid HE2.out; clear HB2 HE2
    generalize w2 = W3 at *
    have hlt3 := HB.out.lt
    have a0 : W3.cell? ⟨b, 0, none⟩ = some (.string me) := HB.out.cell 0
    have a1 : W3.cell? ⟨b, 1, none⟩ = some (.slice Aq nq cq) := HB.out.cell 1
    have a2 : W3.cell? ⟨b, 2, none⟩ = some (.slice Ar nr cr) := HB.out.cell 2
    have a3 : W3.cell? ⟨b, 3, none⟩ = some (.int .i64 st) := HB.out.cell 3
    have az := HB.out.frozen 0
    go_wp2_with fail
    have HBd := Lib.hid (Blk.new W3 24 #[.string ⟨#[103, 101, 116]⟩, .slice Aq nq cq, .slice Ar nr cr, .int .i64 st])
    have HEd := Lib.hid (HE.out.alloc (.cells #[.string ⟨#[103, 101, 116]⟩, .slice Aq nq cq, .slice Ar nr cr, .int .i64 st] 24))
    have HBc := Lib.hid (HB.out.alloc (.cells #[.string ⟨#[103, 101, 116]⟩, .slice Aq nq cq, .slice Ar nr cr, .int .i64 st] 24))
    clear HB HE a0 a1 a2 a3 az
    generalize W3.alloc (.cells #[.string ⟨#[103, 101, 116]⟩, .slice Aq nq cq, .slice Ar nr cr, .int .i64 st] 24) = Wd at *
    generalize W3.heap.size = d at *
    have hne : b ≠ d := by omega
    have hne2 : d ≠ b := by omega
    have hM := HO.out ⟨#[103, 101, 116]⟩ _ HEd.out
    rw [one15_get] at hM
    refine hM.mono ?_; rintro e w4 ⟨rfl, hb4⟩
    clear hM
    have HBd4 := Lib.hid (HBd.out.ext hb4); have HBc4 := Lib.hid (HBc.out.ext hb4); have HE4 := Lib.hid (HEd.out.trans hb4)
    clear HBd HBc HEd hb4
    have hYc : Blk (w4.setCell ⟨b, 0, none⟩ (.string ⟨#[71, 69, 84]⟩)) b 24 #[.string ⟨#[71, 69, 84]⟩, .slice Aq nq cq, .slice Ar nr cr, .int .i64 st] := HBc4.out.set_ 0 (.string ⟨#[71, 69, 84]⟩)
    have hYd : Blk (w4.setCell ⟨b, 0, none⟩ (.string ⟨#[71, 69, 84]⟩)) d 24 #[.string ⟨#[103, 101, 116]⟩, .slice Aq nq cq, .slice Ar nr cr, .int .i64 st] := HBd4.out.far (p := ⟨b, 0, none⟩) hne2 (.string ⟨#[71, 69, 84]⟩)
    have HE5 := Lib.hid (HE4.out.growB ((ExtB.refl b w4).set_ 0 (.string ⟨#[71, 69, 84]⟩)) Hwb.out)
    have m0 : w4.cell? ⟨b, 0, none⟩ = some (.string me) := HBc4.out.cell 0
    have mz : w4.frozen? ⟨b, 0, none⟩ = false := HBc4.out.frozen 0
    have n0 : (w4.setCell ⟨b, 0, none⟩ (.string ⟨#[71, 69, 84]⟩)).cell? ⟨b, 0, none⟩ = some (.string ⟨#[71, 69, 84]⟩) := hYc.cell 0
    have n1 : (w4.setCell ⟨b, 0, none⟩ (.string ⟨#[71, 69, 84]⟩)).cell? ⟨b, 1, none⟩ = some (.slice Aq nq cq) := hYc.cell 1
    have n2 : (w4.setCell ⟨b, 0, none⟩ (.string ⟨#[71, 69, 84]⟩)).cell? ⟨b, 2, none⟩ = some (.slice Ar nr cr) := hYc.cell 2
    have n3 : (w4.setCell ⟨b, 0, none⟩ (.string ⟨#[71, 69, 84]⟩)).cell? ⟨b, 3, none⟩ = some (.int .i64 st) := hYc.cell 3
    clear HBd4 HBc4 HE4
    have HYc := Lib.hid hYc; have HYd := Lib.hid hYd; clear hYc hYd
    go_wp2_with (first | (refine wpList_storeB rfl 24 (.tmp 3) (.tmp 34) rfl rfl d _ rfl rfl 24 _ HYd.out infoCs rfl (by simp [Value.oneCell']) ?_; intro w5 hB5 hX5))
    have HBe := Lib.hid hB5; have HBb := Lib.hid (HYc.out.grown hX5 (by simp; omega)); have HE6 := Lib.hid (HE5.out.growB hX5 (by have := Hwb.out; omega))
    clear hB5 hX5 HYc HYd HE5 n0 n1 n2 n3 m0 mz
    have hdw := HBe.out.lt
    have Hdw := Lib.hid hdw
    have HC := Lib.hid (show ∀ w', Ext w5 w' → (w'.cell? ⟨b, 1, none⟩ = some (.slice Aq nq cq) ∧ w'.cell? ⟨b, 2, none⟩ = some (.slice Ar nr cr)) from fun w' h => ⟨(HBb.out.ext h).cell 1, (HBb.out.ext h).cell 2⟩)
    have hE := (Ext.refl w5).drew
    refine wp_region_held_drew (S := (fun w' => w'.cell? ⟨b, 1, none⟩ = some (.slice Aq nq cq) ∧ w'.cell? ⟨b, 2, none⟩ = some (.slice Ar nr cr))) (by kernel_rfl) ?_ (fun hHeld => ?_)
    · (try dsimp only); exact HC.out _ hE
    refine wpAnyH_take (i := 0) (oi := { dst := some 35, op := _, type := _, pos := _, after := _, guard := _ }) (v := ?_) rfl (by kernel_rfl) (by kernel_rfl) (by kernel_rfl) (fun _ _ _ h => h) (Or.inl ⟨by rfl, ?_⟩) (by assumption) ?_
    rotate_left
    · (intro w hSw; (try dsimp only at hSw); go_simp; (try with_reducible rfl))
    (try simp only [Act.put, List.setIfInBounds_toArray, List.set_cons_zero, List.set_cons_succ])
    refine wpAnyH_take (i := 1) (oi := { dst := some 36, op := _, type := _, pos := _, after := _, guard := _ }) (v := ?_) rfl (by kernel_rfl) (by kernel_rfl) (by kernel_rfl) (fun _ _ _ h => h) (Or.inl ⟨by rfl, ?_⟩) (by assumption) ?_
    rotate_left
    · (intro w hSw; (try dsimp only at hSw); go_simp; (try with_reducible rfl))
    (try simp only [Act.put, List.setIfInBounds_toArray, List.set_cons_zero, List.set_cons_succ])
    refine wpAnyH_take (i := 3) (oi := { dst := some 38, op := _, type := _, pos := _, after := _, guard := _ }) (v := ?_) rfl (by kernel_rfl) (by kernel_rfl) (by kernel_rfl) (fun _ _ _ h => h) (Or.inl ⟨by rfl, ?_⟩) (by assumption) ?_
    rotate_left
    · (intro w hSw; (try dsimp only at hSw); go_simp; (try with_reducible rfl))
    (try simp only [Act.put, List.setIfInBounds_toArray, List.set_cons_zero, List.set_cons_succ])
    refine wpAnyH_take (i := 4) (oi := { dst := some 39, op := _, type := _, pos := _, after := _, guard := _ }) (v := ?_) rfl (by kernel_rfl) (by kernel_rfl) (by kernel_rfl) (fun _ _ _ h => h) (Or.inl ⟨by rfl, ?_⟩) (by assumption) ?_
    rotate_left
    · (intro w hSw; (try dsimp only at hSw); go_simp; (try with_reducible rfl))
    (try simp only [Act.put, List.setIfInBounds_toArray, List.set_cons_zero, List.set_cons_succ])
    refine wpAnyH_ready (rs := [2]) (by kernel_rfl) (by simp) ?_
    refine AllReadyH.cons (o := { dst := some 37, op := _, type := _, pos := _, after := _, guard := _ }) rfl (fun K hK => ?_) AllReadyH.nil
    go_simp
    refine (HLq.out _ (HE6.out.trans hE)).mono ?_; rintro e w6 ⟨A2, c2, rfl, hr2, hk2, hb6, hlo2⟩; have hlo2 := fun a ha => Nat.le_trans hE.size (hlo2 a ha); replace hE := hE.trans hb6; clear hb6
    try go_wp2_with fail
    refine hK.out _ _ ?_ (fun hHeld => ?_)
    · (try dsimp only); exact HC.out _ hE
    clear hK K
    (try simp only [Act.put, List.setIfInBounds_toArray, List.set_cons_zero, List.set_cons_succ])
    refine wpAnyH_take (i := 6) (oi := { dst := some 41, op := _, type := _, pos := _, after := _, guard := _ }) (v := ?_) rfl (by kernel_rfl) (by kernel_rfl) (by kernel_rfl) (fun _ _ _ h => h) (Or.inl ⟨by rfl, ?_⟩) (by assumption) ?_
    rotate_left
    · (intro w hSw; (try dsimp only at hSw); go_simp; (try with_reducible rfl))
    (try simp only [Act.put, List.setIfInBounds_toArray, List.set_cons_zero, List.set_cons_succ])
    refine wpAnyH_ready (rs := [5]) (by kernel_rfl) (by simp) ?_
    refine AllReadyH.cons (o := { dst := some 40, op := _, type := _, pos := _, after := _, guard := _ }) rfl (fun K hK => ?_) AllReadyH.nil
    go_simp
    refine (HLr.out _ (HE6.out.trans hE)).mono ?_; rintro e w7 ⟨A3, c3, rfl, hr3, hk3, hb7, hlo3⟩; have hlo3 := fun a ha => Nat.le_trans hE.size (hlo3 a ha); replace hE := hE.trans hb7; replace hr2 := hr2.ext hb7; clear hb7
    try go_wp2_with fail
    refine hK.out _ _ ?_ (fun hHeld => ?_)
    · (try dsimp only); exact HC.out _ hE
    clear hK K
    (try simp only [Act.put, List.setIfInBounds_toArray, List.set_cons_zero, List.set_cons_succ])
    refine wpAnyH_ready (rs := [7]) (by kernel_rfl) (by simp) ?_
    refine AllReadyH.cons (o := { dst := none, op := _, type := _, pos := _, after := _, guard := _ }) rfl (fun K hK => ?_) AllReadyH.nil
    have y1 := (HBe.out.ext hE).cell 1; have yz := (HBe.out.ext hE).frozen 1
    go_simp
    skip
    try go_wp2_with fail
    refine hK.out _ _ ?_ (fun hHeld => ?_)
    · (try dsimp only); (have hX := (HBb.out.ext hE).far (p := ⟨d, 1, none⟩) hne (.slice A2 nq c2); exact ⟨hX.cell 1, hX.cell 2⟩)
    clear hK K
    (try simp only [Act.put, List.setIfInBounds_toArray, List.set_cons_zero, List.set_cons_succ])
    refine wpAnyH_take (i := 8) (oi := { dst := some 42, op := _, type := _, pos := _, after := _, guard := _ }) (v := ?_) rfl (by kernel_rfl) (by kernel_rfl) (by kernel_rfl) (fun _ _ _ h => h) (Or.inl ⟨by rfl, ?_⟩) (by assumption) ?_
    rotate_left
    · (intro w hSw; (try dsimp only at hSw); go_simp; (try with_reducible rfl))
    (try simp only [Act.put, List.setIfInBounds_toArray, List.set_cons_zero, List.set_cons_succ])
    refine wpAnyH_ready (rs := [9]) (by kernel_rfl) (by simp) ?_
    refine AllReadyH.cons (o := { dst := none, op := _, type := _, pos := _, after := _, guard := _ }) rfl (fun K hK => ?_) AllReadyH.nil
    have y2 := ((HBe.out.ext hE).set_ 1 (.slice A2 nq c2)).cell 2; have yz2 := ((HBe.out.ext hE).set_ 1 (.slice A2 nq c2)).frozen 2
    go_simp
    skip
    try go_wp2_with fail
    refine hK.out _ _ ?_ (fun hHeld => ?_)
    · (try dsimp only); (have hX := ((HBb.out.ext hE).far (p := ⟨d, 1, none⟩) hne (.slice A2 nq c2)).far (p := ⟨d, 2, none⟩) hne (.slice A3 nr c3); exact ⟨hX.cell 1, hX.cell 2⟩)
    clear hK K
    (try simp only [Act.put, List.setIfInBounds_toArray, List.set_cons_zero, List.set_cons_succ])
    refine wpAnyH_done (by kernel_rfl) ?_ _
    have hYd := ((HBe.out.ext hE).set_ 1 (.slice A2 nq c2)).set_ 2 (.slice A3 nr c3)
    have hYb := ((HBb.out.ext hE).far (p := ⟨d, 1, none⟩) hne (.slice A2 nq c2)).far (p := ⟨d, 2, none⟩) hne (.slice A3 nr c3)
    have hG := ((ExtB.refl d w7).set_ 1 (.slice A2 nq c2)).set_ 2 (.slice A3 nr c3)
    have HF := Lib.hid ((HE6.out.trans hE).growB hG (by have := Hwb.out; omega))
    have hR2 := Rd.growB hr2 hG (fun a ha => by have h1 := hlo2 a ha; have h2 := Hdw.out; have h3 : w5.drew.heap.size = w5.heap.size := rfl; omega)
    have hR3 := Rd.growB hr3 hG (fun a ha => by have h1 := hlo3 a ha; have h2 := Hdw.out; have h3 : w5.drew.heap.size = w5.heap.size := rfl; omega)
    clear hG hr2 hr3 hlo2 hlo3 hE HBe HBb HE6 HC Hdw hdw
    generalize (w7.setCell ⟨d, 1, none⟩ (.slice A2 nq c2)).setCell ⟨d, 2, none⟩ (.slice A3 nr c3) = W7 at *
    have HYd := Lib.hid hYd; have HYb := Lib.hid hYb; have HR2 := Lib.hid hR2; have HR3 := Lib.hid hR3
    clear hYd hYb hR2 hR3
    have HO1 := Lib.hid (fun w' (h : Ext W7 w') => HO.out ⟨#[71, 69, 84]⟩ w' (HF.out.trans h))
    have HO2 := Lib.hid (fun w' (h : Ext W7 w') => law15_of ⟨#[71, 69, 84]⟩ A2 nq c2 (loudS rq) A3 nr c3 (loudS rp) st w' (HR2.out.ext h) (HR3.out.ext h) (by omega) (by omega) (loud_sz HZ.out.1) (loud_sz HZ.out.2) (HG.out.1.ext (HF.out.trans h)) (by rw [loud_sum]; omega) (HG.out.2.ext (HF.out.trans h)))
    rw [rs_loud] at HO2
    generalize rsS (isG ⟨#[71, 69, 84]⟩) rq st rp = N at *
    clear HO HLq HLr HR2 HR3
    go_wp2_with fail
    have HC := Lib.hid (show ∀ w', Ext W7 w' → (w'.cell? ⟨b, 0, none⟩ = some (.string ⟨#[71, 69, 84]⟩) ∧ w'.cell? ⟨b, 1, none⟩ = some (.slice Aq nq cq) ∧ w'.cell? ⟨b, 2, none⟩ = some (.slice Ar nr cr) ∧ w'.cell? ⟨b, 3, none⟩ = some (.int .i64 st) ∧ w'.cell? ⟨d, 0, none⟩ = some (.string ⟨#[71, 69, 84]⟩) ∧ w'.cell? ⟨d, 1, none⟩ = some (.slice A2 nq c2) ∧ w'.cell? ⟨d, 2, none⟩ = some (.slice A3 nr c3) ∧ w'.cell? ⟨d, 3, none⟩ = some (.int .i64 st)) from fun w' h => ⟨(HYb.out.ext h).cell 0, (HYb.out.ext h).cell 1, (HYb.out.ext h).cell 2, (HYb.out.ext h).cell 3, (HYd.out.ext h).cell 0, (HYd.out.ext h).cell 1, (HYd.out.ext h).cell 2, (HYd.out.ext h).cell 3⟩)
    have hE := (Ext.refl W7).drew
    refine wp_region_held_drew (S := (fun w' => w'.cell? ⟨b, 0, none⟩ = some (.string ⟨#[71, 69, 84]⟩) ∧ w'.cell? ⟨b, 1, none⟩ = some (.slice Aq nq cq) ∧ w'.cell? ⟨b, 2, none⟩ = some (.slice Ar nr cr) ∧ w'.cell? ⟨b, 3, none⟩ = some (.int .i64 st) ∧ w'.cell? ⟨d, 0, none⟩ = some (.string ⟨#[71, 69, 84]⟩) ∧ w'.cell? ⟨d, 1, none⟩ = some (.slice A2 nq c2) ∧ w'.cell? ⟨d, 2, none⟩ = some (.slice A3 nr c3) ∧ w'.cell? ⟨d, 3, none⟩ = some (.int .i64 st))) (by kernel_rfl) ?_ (fun hHeld => ?_)
    · (try dsimp only); exact HC.out _ hE
    refine wpAnyH_take (i := 0) (oi := { dst := some 43, op := _, type := _, pos := _, after := _, guard := _ }) (v := ?_) rfl (by kernel_rfl) (by kernel_rfl) (by kernel_rfl) (fun _ _ _ h => h) (Or.inl ⟨by rfl, ?_⟩) (by assumption) ?_
    rotate_left
    · (intro w hSw; (try dsimp only at hSw); go_simp; (try with_reducible rfl))
    (try simp only [Act.put, List.setIfInBounds_toArray, List.set_cons_zero, List.set_cons_succ])
    refine wpAnyH_take (i := 2) (oi := { dst := some 45, op := _, type := _, pos := _, after := _, guard := _ }) (v := ?_) rfl (by kernel_rfl) (by kernel_rfl) (by kernel_rfl) (fun _ _ _ h => h) (Or.inl ⟨by rfl, ?_⟩) (by assumption) ?_
    rotate_left
    · (intro w hSw; (try dsimp only at hSw); go_simp; (try with_reducible rfl))
    (try simp only [Act.put, List.setIfInBounds_toArray, List.set_cons_zero, List.set_cons_succ])
    refine wpAnyH_ready (rs := [1]) (by kernel_rfl) (by simp) ?_
    refine AllReadyH.cons (o := { dst := some 44, op := _, type := _, pos := _, after := _, guard := _ }) rfl (fun K hK => ?_) AllReadyH.nil
    go_simp
    refine (HO1.out _ hE).mono ?_; rintro e w8 ⟨rfl, hb8⟩; replace hE := hE.trans hb8; clear hb8
    try go_wp2_with fail
    refine hK.out _ _ ?_ (fun hHeld => ?_)
    · (try dsimp only); exact HC.out _ hE
    clear hK K
    (try simp only [Act.put, List.setIfInBounds_toArray, List.set_cons_zero, List.set_cons_succ])
    refine wpAnyH_ready (rs := [3]) (by kernel_rfl) (by simp) ?_
    refine AllReadyH.cons (o := { dst := some 46, op := _, type := _, pos := _, after := _, guard := _ }) rfl (fun K hK => ?_) AllReadyH.nil
    go_simp
    refine (HO2.out _ hE).mono ?_; rintro e w9 ⟨rfl, hb9⟩; replace hE := hE.trans hb9; clear hb9
    try go_wp2_with fail
    refine hK.out _ _ ?_ (fun hHeld => ?_)
    · (try dsimp only); exact HC.out _ hE
    clear hK K
    (try simp only [Act.put, List.setIfInBounds_toArray, List.set_cons_zero, List.set_cons_succ])
    refine wpAnyH_take (i := 4) (oi := { dst := some 47, op := _, type := _, pos := _, after := _, guard := _ }) (v := ?_) rfl (by kernel_rfl) (by kernel_rfl) (by kernel_rfl) (fun _ _ _ h => h) (Or.inl ⟨by rfl, ?_⟩) (by assumption) ?_
    rotate_left
    · (intro w hSw; (try dsimp only at hSw); go_simp; (try with_reducible rfl))
    (try simp only [Act.put, List.setIfInBounds_toArray, List.set_cons_zero, List.set_cons_succ])
    refine wpAnyH_take (i := 5) (oi := { dst := some 2, op := _, type := _, pos := _, after := _, guard := _ }) (v := ?_) rfl (by kernel_rfl) (by kernel_rfl) (by kernel_rfl) (fun _ _ _ h => h) (Or.inl ⟨by rfl, ?_⟩) (by assumption) ?_
    rotate_left
    · (intro w hSw; (try dsimp only at hSw); go_simp; (try with_reducible rfl))
    (try simp only [Act.put, List.setIfInBounds_toArray, List.set_cons_zero, List.set_cons_succ])
    refine wpAnyH_done (by kernel_rfl) ?_ _
    go_wp2_with fail
    go_ret
    exact ⟨ret_b (by simp), HF.out.trans hE⟩
end Go.Proofs.YtphgaommokgfcaaDoor

namespace Go.Proofs.YtphgaommokgfcaaDoor
open Go.RowKit

theorem all_n {w : World} {A : Option Addr} {n N : Nat} {fs : List Fd} {name : ByteArray} (h : RdS w A n (allS fs name)) (hN : fs.length ≤ N) : n ≤ N := by
  have h1 := h.lenS
  have h2 := allS_len fs name fs.length
  rw [List.take_of_length_le (Nat.le_refl _)] at h2
  omega

theorem str_Equal (A A2 : Option Addr) (n c n2 c2 : Nat) (xs ys : List ByteArray) (w : World) (hx : RdS w A n xs) (hy : RdS w A2 n2 ys) (hn : n ≤ 9223372036854775807) (hn2 : n2 ≤ 9223372036854775807) :
    Calls Tryd.prog 29 #[.slice A n c, .slice A2 n2 c2] w fun e w' => e = .returned (.bool (decide (xs = ys))) ∧ Ext w w' := by
  have h1 := hx.lenS
  have h2 := hy.lenS
  by_cases hne : n = n2
  · subst hne
    by_cases h0 : 0 < n
    · obtain ⟨b, o, rfl, hc⟩ := hx.2 (by simp; omega)
      obtain ⟨b2, o2, rfl, hc2⟩ := hy.2 (by simp; omega)
      have hget : ∀ (l : List ByteArray) (j : Nat), j < l.length → (strCells l)[j]? = some (.string (l.getD j ByteArray.empty)) := fun l j hj => by
        simp [List.getD_eq_getElem?_getD, List.getElem?_eq_getElem hj]
      refine (Tryd.slices_Equal_string b o n c b2 o2 n c2 xs ys w (by omega) (by omega) hn hn (fun j hj => hc j _ (hget xs j hj)) (fun j hj => hc2 j _ (hget ys j hj))).mono fun e w' hh => ?_
      obtain ⟨he, q, rfl⟩ := hh
      rw [List.take_of_length_le (by omega), List.take_of_length_le (by omega)] at he
      exact ⟨he, (Ext.refl w).drewN q⟩
    · obtain rfl : n = 0 := by omega
      obtain rfl : xs = [] := List.eq_nil_of_length_eq_zero h1
      obtain rfl : ys = [] := List.eq_nil_of_length_eq_zero h2
      refine (Tryd.slices_Equal_string_empty A A2 c 0 c2 w hn2).mono fun e w' hh => ?_
      obtain ⟨he, rfl⟩ := hh
      exact ⟨by rw [he]; rfl, Ext.refl _⟩
  · refine (Tryd.slices_Equal_string_lens A A2 n c n2 c2 w hne).mono fun e w' hh => ?_
    obtain ⟨he, rfl⟩ := hh
    refine ⟨by rw [he, decide_eq_false]; intro h; subst h; omega, Ext.refl _⟩

set_option maxHeartbeats 4000000 in
theorem field_Same (A A2 : Option Addr) (n c n2 c2 : Nat) (fs gs : List Fd) (w : World) (hf : RdF w A n fs) (hg : RdF w A2 n2 gs)
    (hn : n ≤ 65536) (hn2 : n2 ≤ 65536) (hsz : Bsz 1073741824 fs) (hsz2 : Bsz 1073741824 gs) :
    Calls Tryd.prog 21 #[.slice A n c, .slice A2 n2 c2] w fun e w' => e = .returned (.bool (sameS fs gs)) ∧ Ext w w' := by
  have hl := hf.lenF
  have hl2 := hg.lenF
  by_cases hnn : n = n2
  · subst hnn
    go_enter Tryd.func21, Tryd.ntmps21
    have Hl := Lib.hid hl; clear hl
    have Hl2 := Lib.hid hl2; clear hl2
    go_wp2_with fail
    go_loopw [14] (fun i wr => ∃ k, k ≤ n ∧ i = .int .i64 (k : Nat) ∧ sameTo fs gs k = true ∧ Ext w wr) (fun i _ => n - (intOf i).toNat)
    case atStart => exact ⟨0, Nat.zero_le _, rfl, rfl, Ext.refl _⟩
    case round =>
      obtain ⟨k, hk, rfl, heq, hbr⟩ := hrel
      have Heq := Lib.hid heq; clear heq
      by_cases hlt : k < n
      · have hlt1 : k < fs.length := by have := Hl.out; omega
        have hF := hf.ext hbr
        have hG := hg.ext hbr
        obtain ⟨b, o, hA, hc0, hc1⟩ := hF.atF hlt1
        have hbd := (hsz.at_ hlt1).1
        have hb0 := World.block_lt_of_cell? _ _ hc0
        subst hA
        generalize hnm : fs[k].1 = nm at *
        generalize fs[k].2 = vl at *
        have Hnm := Lib.hid hnm; clear hnm
        go_wp2_with fail
        have hcell : (wr.alloc (Obj.cells #[Value.string nm, Value.string vl] 54)).cell? ⟨wr.heap.size, 0, none⟩ = some (.string nm) := by rw [World.cell?_alloc_mark]; rfl
        have hext : Ext wr (wr.alloc (Obj.cells #[Value.string nm, Value.string vl] 54)) := (Ext.refl _).alloc _
        generalize wr.alloc (Obj.cells #[Value.string nm, Value.string vl] 54) = WW at *
        have hF2 := hF.ext hext
        have hG2 := hG.ext hext
        have hblk := World.block_lt_of_cell? _ _ hcell
        generalize wr.heap.size = BB at *
        have hsA : ∀ f ∈ fs, f.1.size ≤ 9223372036854775807 := fun f hff => by have := (hsz f hff).1; omega
        have hsB : ∀ f ∈ gs, f.1.size ≤ 9223372036854775807 := fun f hff => by have := (hsz2 f hff).1; omega
        have HsA := Lib.hid hsA; have HsB := Lib.hid hsB; clear hsA hsB
        have hl65 : fs.length ≤ 65536 := by have := Hl.out; omega
        have hg65 : gs.length ≤ 65536 := by have := Hl2.out; omega
        go_region_held3 (fun w' => w'.cell? ⟨BB, 0, none⟩ = some (.string nm)) (first | exact hcell | exact hce2 | exact hce3 | exact hce4)
          (first
            | (go_at_call_of 20 (Value.slice (some ⟨b, o, none⟩) n c); refine (field_All _ _ _ fs nm _ ?_ (by omega) (by omega) HsA.out).mono ?_; exact hF2; rintro e w2 ⟨A3, n3, c3, rfl, hr3, hc3, hb2⟩; have hce2 := hb2.cell hcell)
            | (go_at_call_of 20 (Value.slice A2 n c2); refine (field_All _ _ _ gs nm _ ?_ (by omega) (by omega) HsB.out).mono ?_; exact hG2.drew.ext hb2; rintro e w3 ⟨A4, n4, c4, rfl, hr4, hc4, hb3⟩; have hn3 := all_n hr3 hl65; have hn4 := all_n hr4 hg65; have hce3 := hb3.cell hce2)
            | (go_at_call 29; refine (str_Equal _ _ _ _ _ _ _ _ _ (hr3.ext hb3) hr4 (by omega) (by omega)).mono ?_; rintro e w4 ⟨rfl, hb4⟩; have hce4 := hb4.cell hce3))
        all_goals
          have hb5 : Ext w w4 := (((hbr.trans hext).drew.trans hb2).trans hb3).trans hb4
          by_cases he : allS fs nm = allS gs nm
          · rw [decide_eq_true he]
            have Hst := Lib.hid (sameTo_step hlt1 Heq.out (by rw [Hnm.out]; exact he))
            clear he
            go_wp2
            go_roundw
            case rel => exact ⟨k + 1, by omega, by go_num, Hst.out, hb5⟩
            case measure => simp [intOf]; omega
          · rw [decide_eq_false he]
            have Hst := Lib.hid (sameS_no (a := fs) (b := gs) hlt1 (by rw [Hnm.out]; exact he))
            clear he
            go_wp2
            go_ret
            exact ⟨congrArg (fun x => Ending.returned (.bool x)) Hst.out, hb5⟩
      · obtain rfl : k = n := by omega
        have he := Hl.out
        have he2 := Hl2.out
        have Hend := Lib.hid (sameS_end (a := fs) (b := gs) (by omega) (by rw [he]; exact Heq.out))
        clear he he2
        go_wp2
        go_ret
        exact ⟨congrArg (fun x => Ending.returned (.bool x)) Hend.out, hbr⟩
  · have Hno := Lib.hid (sameS_len (a := fs) (b := gs) (by omega))
    clear hl hl2
    go_enter Tryd.func21, Tryd.ntmps21
    go_wp2
    go_ret
    exact ⟨congrArg (fun x => Ending.returned (.bool x)) Hno.out, Ext.refl _⟩
end Go.Proofs.YtphgaommokgfcaaDoor

namespace Go.Proofs.YtphgaommokgfcaaDoor
open Go.RowKit

/-- What an update returns. -/
def UpV (o : Option (List Fd)) (e : Ending) (w' : World) : Prop := match o with
  | some L => ∃ A' n' c', e = .returned (.tuple #[.slice A' n' c', .nilIface]) ∧ RdF w' A' n' L ∧ n' ≤ c'
  | none => e = .returned (.tuple #[.slice none 0 0, errV 20])
def threeN : List ByteArray := [clN, ceN, crN]
def rem3 (fs : List Fd) (k : Nat) : List Fd := (threeN.take k).foldl remS fs
theorem rem3_step {fs : List Fd} {k : Nat} (h : k < threeN.length) : rem3 fs (k + 1) = remS (rem3 fs k) threeN[k] := by
  unfold rem3; rw [take_step threeN k h, List.foldl_append]; rfl
theorem rem_sub (fs : List Fd) (m : ByteArray) : ∀ f ∈ remS fs m, f ∈ fs := fun f h => by unfold remS at h; exact (List.mem_filter.1 h).1
theorem rem3_sub (fs : List Fd) : ∀ (k : Nat), ∀ f ∈ rem3 fs k, f ∈ fs := by
  intro k
  unfold rem3
  generalize threeN.take k = l
  induction l generalizing fs with
  | nil => exact fun f h => h
  | cons x l ih => exact fun f h => rem_sub fs x f (ih (remS fs x) f h)
theorem rem3_len (fs : List Fd) (k : Nat) : (rem3 fs k).length ≤ fs.length := by
  unfold rem3
  generalize threeN.take k = l
  induction l generalizing fs with
  | nil => exact Nat.le_refl _
  | cons x l ih => exact Nat.le_trans (ih (remS fs x)) (List.length_filter_le _ _)
theorem three_sz : ∀ (k : Nat) (h : k < threeN.length), (threeN[k]).size ≤ 16 := by decide +kernel
theorem strip_sub (fs : List Fd) : ∀ f ∈ stripS fs, f ∈ fs := fun f h => by unfold stripS at h; exact (List.mem_filter.1 h).1
theorem keep_step {st nw : List Fd} {k : Nat} (h : k < st.length) (hx : hasF nw st[k].1 = false) : (st.take (k + 1)).filter (fun x => !hasF nw x.1) = (st.take k).filter (fun x => !hasF nw x.1) ++ [st[k]] := by
  rw [take_step st k h, List.filter_append]; simp [hx]
theorem drop_step {st nw : List Fd} {k : Nat} (h : k < st.length) (hx : hasF nw st[k].1 = true) : (st.take (k + 1)).filter (fun x => !hasF nw x.1) = (st.take k).filter (fun x => !hasF nw x.1) := by
  rw [take_step st k h, List.filter_append]; simp [hx]
set_option maxHeartbeats 16000000 in
set_option maxRecDepth 100000 in
theorem sto_Update (As : Option Addr) (ns cs : Nat) (st : List Fd) (Af : Option Addr) (nf cf : Nat) (fr : List Fd) (w : World) (hfs : RdF w As ns st) (hff : RdF w Af nf fr)
    (hns : ns ≤ 1073741824) (hnf : nf ≤ 2000) (hszs : Bsz 1048576 st) (hszf : Bsz 6000 fr) :
    Calls Tryd.prog 16 #[.slice As ns cs, .slice Af nf cf] w fun e w' => UpV (updS st fr) e w' ∧ Ext w w' := by
  have hszf1 : Bsz 1048576 fr := hszf.mono (by decide)
  have HS := Lib.hid (fun w' (h : Ext w w') => field_Strip Af nf cf fr w' (hff.ext h) hnf hszf)
  have HH1 := Lib.hid (fun w' (h : Ext w w') => sto_has As ns cs st etN w' (hfs.ext h) hns (by decide) hszs)
  have HH2 := Lib.hid (fun w' (h : Ext w w') => sto_has Af nf cf fr etN w' (hff.ext h) (by omega) (by decide) hszf1)
  have HA1 := Lib.hid (fun w' (h : Ext w w') => field_All As ns cs st etN w' (hfs.ext h) hns (by decide) (fun f hf => Nat.le_trans (hszs f hf).1 (by decide)))
  have HA2 := Lib.hid (fun w' (h : Ext w w') => field_All Af nf cf fr etN w' (hff.ext h) (by omega) (by decide) (fun f hf => Nat.le_trans (hszf1 f hf).1 (by decide)))
  have HT1 := Lib.hid (fun w' (h : Ext w w') => sto_tag As ns cs st w' (hfs.ext h) hns hszs)
  have HT2 := Lib.hid (fun w' (h : Ext w w') => sto_tag Af nf cf fr w' (hff.ext h) (by omega) hszf1)
  have Hl1 := Lib.hid (len_all hfs etN)
  have Hl2 := Lib.hid (len_all hff etN)
  have Hls := Lib.hid hfs.lenF
  have Hnf := Lib.hid hnf
  have Hu := Lib.hid (show updS st fr = if hasF st etN && hasF fr etN && !decide (allS st etN = allS fr etN) && !tgEq (tgF st) (tgF fr) then none else some ((st.filter fun x => !hasF (rem3 (stripS fr) 3) x.1) ++ rem3 (stripS fr) 3) from rfl)
  have HFs := Lib.hid hfs
  have HSz := Lib.hid hszs
  have HBz := Lib.hid (show ∀ k, Bsz 1048576 (rem3 (stripS fr) k) from fun k f hf => hszf1 f (strip_sub fr f (rem3_sub _ k f hf)))
  have HNz := Lib.hid (show ∀ k, (rem3 (stripS fr) k).length ≤ 2000 from fun k => by
    have h1 := rem3_len (stripS fr) k
    have h2 : (stripS fr).length ≤ fr.length := List.length_filter_le _ _
    have h3 := hff.lenF
    omega)
  clear hszf1 hfs hff hszs hszf hnf
  have Hr0 := Lib.hid (show rem3 (stripS fr) 0 = stripS fr from rfl)
  have Hr1 := Lib.hid (fun k (h : k < threeN.length) => rem3_step (fs := stripS fr) h)
  generalize hRR : rem3 (stripS fr) = RR at *
  clear hRR
  generalize stripS fr = SF at *
  generalize updS st fr = U at *
  generalize hasF st etN = H1 at *
  generalize hasF fr etN = H2 at *
  generalize allS st etN = L1 at *
  generalize allS fr etN = L2 at *
  generalize tgF st = T1 at *
  generalize tgF fr = T2 at *
  go_enter Tryd.func16, Tryd.ntmps16
  go_wp2_with fail
  refine (HS.out _ (Ext.refl _)).mono ?_; rintro e w1 ⟨A1, n1, c1, rfl, hr1, hc1, hb1⟩
  have hl3 : RdS (w1.alloc (.cells #[.string ⟨#[99, 111, 110, 116, 101, 110, 116, 45, 108, 101, 110, 103, 116, 104]⟩, .string ⟨#[99, 111, 110, 116, 101, 110, 116, 45, 101, 110, 99, 111, 100, 105, 110, 103]⟩, .string ⟨#[99, 111, 110, 116, 101, 110, 116, 45, 114, 97, 110, 103, 101]⟩] 9)) (some ⟨w1.heap.size, 0, none⟩) 3 threeN := Rd.lit w1 #[.string ⟨#[99, 111, 110, 116, 101, 110, 116, 45, 108, 101, 110, 103, 116, 104]⟩, .string ⟨#[99, 111, 110, 116, 101, 110, 116, 45, 101, 110, 99, 111, 100, 105, 110, 103]⟩, .string ⟨#[99, 111, 110, 116, 101, 110, 116, 45, 114, 97, 110, 103, 101]⟩] 9 rfl 1 3 rfl
  have HL3 := Lib.hid hl3; clear hl3
  have HE1 := Lib.hid (hb1.alloc (.cells #[.string ⟨#[99, 111, 110, 116, 101, 110, 116, 45, 108, 101, 110, 103, 116, 104]⟩, .string ⟨#[99, 111, 110, 116, 101, 110, 116, 45, 101, 110, 99, 111, 100, 105, 110, 103]⟩, .string ⟨#[99, 111, 110, 116, 101, 110, 116, 45, 114, 97, 110, 103, 101]⟩] 9))
  have HR1 := Lib.hid (hr1.ext ((Ext.refl w1).alloc (.cells #[.string ⟨#[99, 111, 110, 116, 101, 110, 116, 45, 108, 101, 110, 103, 116, 104]⟩, .string ⟨#[99, 111, 110, 116, 101, 110, 116, 45, 101, 110, 99, 111, 100, 105, 110, 103]⟩, .string ⟨#[99, 111, 110, 116, 101, 110, 116, 45, 114, 97, 110, 103, 101]⟩] 9)))
  clear hb1 hr1
  go_wp2_with fail
  generalize w1.alloc (.cells #[.string ⟨#[99, 111, 110, 116, 101, 110, 116, 45, 108, 101, 110, 103, 116, 104]⟩, .string ⟨#[99, 111, 110, 116, 101, 110, 116, 45, 101, 110, 99, 111, 100, 105, 110, 103]⟩, .string ⟨#[99, 111, 110, 116, 101, 110, 116, 45, 114, 97, 110, 103, 101]⟩] 9) = w2 at *
  generalize w1.heap.size = b2 at *
  go_loopw [6, 20] (fun v i wr => ∃ k A' n' c', k ≤ 3 ∧ i = .int .i64 (k : Nat) ∧ v = .slice A' n' c' ∧ RdF wr A' n' (RR k) ∧ n' ≤ c' ∧ Ext w2 wr) (fun _ i _ => 3 - (intOf i).toNat)
  case atStart => exact ⟨0, A1, n1, c1, Nat.zero_le _, rfl, rfl, by rw [Hr0.out]; exact HR1.out, hc1, Ext.refl _⟩
  case round =>
    obtain ⟨k, A', n', c', hk, rfl, rfl, hrk, hck, hbr⟩ := hrel
    have Hnk := Lib.hid (show n' ≤ 2000 by rw [← hrk.lenF]; exact HNz.out k)
    by_cases hlt : k < 3
    · have hlt' : k < threeN.length := hlt
      obtain ⟨b, o, hbo, hc0⟩ := (HL3.out.ext hbr).atS hlt'
      injection hbo with hbo
      injection hbo with e1 e2
      subst e1; subst e2
      rw [Nat.zero_add] at hc0
      have Hst := Lib.hid (Hr1.out k hlt')
      have HRm := Lib.hid (field_Remove A' n' c' (RR k) threeN[k] wr hrk (by have := Hnk.out; omega) (by have := three_sz k hlt'; omega) ((HBz.out k).mono (by decide)))
      generalize threeN[k] = x at *
      go_wp2_with fail
      refine HRm.out.mono ?_; rintro e w3 ⟨A3, n3, c3, rfl, hr3, hc3, hb3, hown3⟩
      clear hown3
      go_wp2_with fail
      go_roundw
      case rel => exact ⟨k + 1, A3, n3, c3, by omega, by go_num, rfl, by rw [Hst.out]; exact hr3, hc3, hbr.trans hb3⟩
      case measure => simp [intOf]; omega
    · obtain rfl : k = 3 := by omega
      clear hlt hk
      have h4 := HE1.out.trans hbr
      have HN := Lib.hid (⟨hrk, hck⟩ : _ ∧ _)
      have Hn3 := Lib.hid (HNz.out 3)
      have HB3 := Lib.hid (HBz.out 3)
      clear hrk hck HE1 HL3 HR1 hbr HBz HNz Hr0 Hr1 HS
      generalize RR 3 = N3 at *
      generalize wr = W4 at *
      have g4 : Ext W4 W4 := Ext.refl _
      go_wp2_with fail
      refine (HH1.out _ h4).mono ?_; rintro e w5 ⟨rfl, hb5⟩
      have h5 := h4.trans hb5
      have g5 := g4.trans hb5; clear hb5
      cases H1
      · skip
        generalize w5 = WB5 at *
        have HU := Lib.hid (show U = some ((st.filter fun x => !hasF N3 x.1) ++ N3) by rw [Hu.out]; rfl)
        clear Hu
        go_wp2_with fail
        go_loopw [13, 67] (fun v i wi => ∃ j m A5 c5, j ≤ ns ∧ i = .int .i64 (j : Nat) ∧ v = .slice A5 m c5 ∧ wi.ownsRow WB5.heap.size 54 2 (.slice A5 m c5) m (fldCells ((st.take j).filter fun x => !hasF N3 x.1)) ∧ m ≤ c5 ∧ m ≤ j ∧ Ext WB5 wi) (fun _ i _ => ns - (intOf i).toNat)
        case atStart => exact ⟨0, 0, none, 0, Nat.zero_le _, rfl, rfl, World.ownsRow_nil _ _ _ _, Nat.le_refl _, Nat.le_refl _, Ext.refl _⟩
        case round =>
          obtain ⟨j, m, A5, c5, hj, rfl, rfl, hown, hmc, hmj, hbi⟩ := hrel
          by_cases hjt : j < ns
          · have hjt' : j < st.length := by have := Hls.out; omega
            obtain ⟨b, o, rfl, hc0, hc1⟩ := (HFs.out.ext (h5.trans hbi)).atF hjt'
            have hbd := (HSz.out.at_ hjt').1
            have Hk := Lib.hid (keep_step (nw := N3) hjt')
            have Hd := Lib.hid (drop_step (nw := N3) hjt')
            have HHas := Lib.hid (fun w5 (h5 : Ext W4 w5) => sto_has A' n' c' N3 st[j].1 w5 (HN.out.1.ext h5) (by have := Hnk.out; omega) (by omega) HB3.out)
            generalize hx : st[j] = x at *
            obtain ⟨nm, vl⟩ := x
            clear hx
            simp only at hbd hc0 hc1 Hk Hd HHas
            generalize hasF N3 nm = q at *
            go_wp2_with fail
            refine (HHas.out _ ((g5.trans hbi).alloc _)).mono ?_; rintro e w6 ⟨rfl, hb6⟩
            have hbi6 := (hbi.alloc (.cells #[.string nm, .string vl] 54)).trans hb6
            have hown6 := own_ext (hown.alloc (.cells #[.string nm, .string vl] 54)) hb6
            have x0 := hb6.cell (show (wr.alloc (.cells #[.string nm, .string vl] 54)).cell? ⟨wr.heap.size, 0, none⟩ = some (.string nm) from (Blk.new wr 54 #[.string nm, .string vl]).cell 0)
            have x1 := hb6.cell (show (wr.alloc (.cells #[.string nm, .string vl] 54)).cell? ⟨wr.heap.size, 1, none⟩ = some (.string vl) from (Blk.new wr 54 #[.string nm, .string vl]).cell 1)
            clear hb6 hown hbi
            cases q
            · have Hk2 := Lib.hid (Hk.out rfl)
              clear Hk Hd
              go_wp2_with (first
                | (at_builtin; refine wpList_app _ rfl (.tmp 76) (.tmp 78) 37 rfl WB5 54 _ 2 32 Tryd.underlying37 infoFld rfl (by decide) _ _ _ rfl (hown6.alloc _) _ 1 1 (fldCells [(nm, vl)]) rfl (Rd.two _ _ _ _ (by simp)) (fldCells_one _) (hbi6.alloc _) (by omega) (by decide) ?_; intro A7 c7 w7 hown7 hb7 hle7))
              go_roundw
              case rel => exact ⟨j + 1, m + 1, A7, c7, by omega, by go_num, rfl, by rw [Hk2.out, fldCells_app]; exact hown7, hle7, by omega, hb7⟩
              case measure => simp [intOf]; omega
            · have Hd2 := Lib.hid (Hd.out rfl)
              clear Hk Hd
              go_wp2_with fail
              go_roundw
              case rel => exact ⟨j + 1, m, A5, c5, by omega, by go_num, rfl, by rw [Hd2.out]; exact hown6, hmc, by omega, hbi6⟩
              case measure => simp [intOf]; omega
          · obtain rfl : j = ns := by omega
            have he : st.take j = st := List.take_of_length_le (by have := Hls.out; omega)
            rw [he] at hown
            clear he hjt
            have HN5 := Lib.hid (HN.out.1.ext (g5.trans hbi))
            have hnk := Hnk.out
            go_wp2_with (first
              | (at_builtin; refine wpList_app _ rfl (.tmp 81) (.tmp 82) 37 rfl WB5 54 _ 2 32 Tryd.underlying37 infoFld rfl (by decide) _ _ _ rfl hown _ n' c' (fldCells N3) rfl HN5.out (fldCells_one _) hbi (by omega) (by decide) ?_; intro A7 c7 w7 hown7 hb7 hle7))
            go_ret2
            exact ⟨by rw [HU.out]; exact ⟨A7, m + n', c7, rfl, by rw [← fldCells_app] at hown7; exact Rd.of_own hown7, hle7⟩, h5.trans hb7⟩
      go_wp2_with fail
      refine (HH2.out _ h5).mono ?_; rintro e w6 ⟨rfl, hb6⟩
      have h6 := h5.trans hb6
      have g6 := g5.trans hb6; clear hb6
      cases H2
      · skip
        generalize w6 = WB6 at *
        have HU := Lib.hid (show U = some ((st.filter fun x => !hasF N3 x.1) ++ N3) by rw [Hu.out]; rfl)
        clear Hu
        go_wp2_with fail
        go_loopw [13, 67] (fun v i wi => ∃ j m A5 c5, j ≤ ns ∧ i = .int .i64 (j : Nat) ∧ v = .slice A5 m c5 ∧ wi.ownsRow WB6.heap.size 54 2 (.slice A5 m c5) m (fldCells ((st.take j).filter fun x => !hasF N3 x.1)) ∧ m ≤ c5 ∧ m ≤ j ∧ Ext WB6 wi) (fun _ i _ => ns - (intOf i).toNat)
        case atStart => exact ⟨0, 0, none, 0, Nat.zero_le _, rfl, rfl, World.ownsRow_nil _ _ _ _, Nat.le_refl _, Nat.le_refl _, Ext.refl _⟩
        case round =>
          obtain ⟨j, m, A5, c5, hj, rfl, rfl, hown, hmc, hmj, hbi⟩ := hrel
          by_cases hjt : j < ns
          · have hjt' : j < st.length := by have := Hls.out; omega
            obtain ⟨b, o, rfl, hc0, hc1⟩ := (HFs.out.ext (h6.trans hbi)).atF hjt'
            have hbd := (HSz.out.at_ hjt').1
            have Hk := Lib.hid (keep_step (nw := N3) hjt')
            have Hd := Lib.hid (drop_step (nw := N3) hjt')
            have HHas := Lib.hid (fun w5 (h5 : Ext W4 w5) => sto_has A' n' c' N3 st[j].1 w5 (HN.out.1.ext h5) (by have := Hnk.out; omega) (by omega) HB3.out)
            generalize hx : st[j] = x at *
            obtain ⟨nm, vl⟩ := x
            clear hx
            simp only at hbd hc0 hc1 Hk Hd HHas
            generalize hasF N3 nm = q at *
            go_wp2_with fail
            refine (HHas.out _ ((g6.trans hbi).alloc _)).mono ?_; rintro e w6 ⟨rfl, hb6⟩
            have hbi6 := (hbi.alloc (.cells #[.string nm, .string vl] 54)).trans hb6
            have hown6 := own_ext (hown.alloc (.cells #[.string nm, .string vl] 54)) hb6
            have x0 := hb6.cell (show (wr.alloc (.cells #[.string nm, .string vl] 54)).cell? ⟨wr.heap.size, 0, none⟩ = some (.string nm) from (Blk.new wr 54 #[.string nm, .string vl]).cell 0)
            have x1 := hb6.cell (show (wr.alloc (.cells #[.string nm, .string vl] 54)).cell? ⟨wr.heap.size, 1, none⟩ = some (.string vl) from (Blk.new wr 54 #[.string nm, .string vl]).cell 1)
            clear hb6 hown hbi
            cases q
            · have Hk2 := Lib.hid (Hk.out rfl)
              clear Hk Hd
              go_wp2_with (first
                | (at_builtin; refine wpList_app _ rfl (.tmp 76) (.tmp 78) 37 rfl WB6 54 _ 2 32 Tryd.underlying37 infoFld rfl (by decide) _ _ _ rfl (hown6.alloc _) _ 1 1 (fldCells [(nm, vl)]) rfl (Rd.two _ _ _ _ (by simp)) (fldCells_one _) (hbi6.alloc _) (by omega) (by decide) ?_; intro A7 c7 w7 hown7 hb7 hle7))
              go_roundw
              case rel => exact ⟨j + 1, m + 1, A7, c7, by omega, by go_num, rfl, by rw [Hk2.out, fldCells_app]; exact hown7, hle7, by omega, hb7⟩
              case measure => simp [intOf]; omega
            · have Hd2 := Lib.hid (Hd.out rfl)
              clear Hk Hd
              go_wp2_with fail
              go_roundw
              case rel => exact ⟨j + 1, m, A5, c5, by omega, by go_num, rfl, by rw [Hd2.out]; exact hown6, hmc, by omega, hbi6⟩
              case measure => simp [intOf]; omega
          · obtain rfl : j = ns := by omega
            have he : st.take j = st := List.take_of_length_le (by have := Hls.out; omega)
            rw [he] at hown
            clear he hjt
            have HN5 := Lib.hid (HN.out.1.ext (g6.trans hbi))
            have hnk := Hnk.out
            go_wp2_with (first
              | (at_builtin; refine wpList_app _ rfl (.tmp 81) (.tmp 82) 37 rfl WB6 54 _ 2 32 Tryd.underlying37 infoFld rfl (by decide) _ _ _ rfl hown _ n' c' (fldCells N3) rfl HN5.out (fldCells_one _) hbi (by omega) (by decide) ?_; intro A7 c7 w7 hown7 hb7 hle7))
            go_ret2
            exact ⟨by rw [HU.out]; exact ⟨A7, m + n', c7, rfl, by rw [← fldCells_app] at hown7; exact Rd.of_own hown7, hle7⟩, h6.trans hb7⟩
      go_wp2_with fail
      refine (HA1.out _ h6).mono ?_; rintro e w7 ⟨A7, n7, c7, rfl, hr7, hc7, hb7⟩
      have h7 := h6.trans hb7
      have g7 := g6.trans hb7; clear hb7
      have hn7 : n7 ≤ 9223372036854775807 := by have := hr7.lenS; have := Hl1.out; omega
      go_wp2_with fail
      refine (HA2.out _ h7).mono ?_; rintro e w8 ⟨A8, n8, c8, rfl, hr8, hc8, hb8⟩
      have h8 := h7.trans hb8
      have hn8 : n8 ≤ 9223372036854775807 := by have := hr8.lenS; have := Hl2.out; have := Hnf.out; omega
      have HEq := Lib.hid (str_Equal A7 A8 n7 c7 n8 c8 L1 L2 w8 (hr7.ext hb8) hr8 hn7 hn8)
      have g8 := g7.trans hb8
      clear hr7 hr8 hb8 hn7 hn8 hc7 hc8
      generalize decide (L1 = L2) = q at *
      go_wp2_with fail
      refine HEq.out.mono ?_; rintro e w9 ⟨rfl, hb9⟩
      have h9 := h8.trans hb9
      have g9 := g8.trans hb9; clear hb9
      clear HEq
      cases q
      rotate_left
      · skip
        generalize w9 = WB9 at *
        have HU := Lib.hid (show U = some ((st.filter fun x => !hasF N3 x.1) ++ N3) by rw [Hu.out]; rfl)
        clear Hu
        go_wp2_with fail
        go_loopw [13, 67] (fun v i wi => ∃ j m A5 c5, j ≤ ns ∧ i = .int .i64 (j : Nat) ∧ v = .slice A5 m c5 ∧ wi.ownsRow WB9.heap.size 54 2 (.slice A5 m c5) m (fldCells ((st.take j).filter fun x => !hasF N3 x.1)) ∧ m ≤ c5 ∧ m ≤ j ∧ Ext WB9 wi) (fun _ i _ => ns - (intOf i).toNat)
        case atStart => exact ⟨0, 0, none, 0, Nat.zero_le _, rfl, rfl, World.ownsRow_nil _ _ _ _, Nat.le_refl _, Nat.le_refl _, Ext.refl _⟩
        case round =>
          obtain ⟨j, m, A5, c5, hj, rfl, rfl, hown, hmc, hmj, hbi⟩ := hrel
          by_cases hjt : j < ns
          · have hjt' : j < st.length := by have := Hls.out; omega
            obtain ⟨b, o, rfl, hc0, hc1⟩ := (HFs.out.ext (h9.trans hbi)).atF hjt'
            have hbd := (HSz.out.at_ hjt').1
            have Hk := Lib.hid (keep_step (nw := N3) hjt')
            have Hd := Lib.hid (drop_step (nw := N3) hjt')
            have HHas := Lib.hid (fun w5 (h5 : Ext W4 w5) => sto_has A' n' c' N3 st[j].1 w5 (HN.out.1.ext h5) (by have := Hnk.out; omega) (by omega) HB3.out)
            generalize hx : st[j] = x at *
            obtain ⟨nm, vl⟩ := x
            clear hx
            simp only at hbd hc0 hc1 Hk Hd HHas
            generalize hasF N3 nm = q at *
            go_wp2_with fail
            refine (HHas.out _ ((g9.trans hbi).alloc _)).mono ?_; rintro e w6 ⟨rfl, hb6⟩
            have hbi6 := (hbi.alloc (.cells #[.string nm, .string vl] 54)).trans hb6
            have hown6 := own_ext (hown.alloc (.cells #[.string nm, .string vl] 54)) hb6
            have x0 := hb6.cell (show (wr.alloc (.cells #[.string nm, .string vl] 54)).cell? ⟨wr.heap.size, 0, none⟩ = some (.string nm) from (Blk.new wr 54 #[.string nm, .string vl]).cell 0)
            have x1 := hb6.cell (show (wr.alloc (.cells #[.string nm, .string vl] 54)).cell? ⟨wr.heap.size, 1, none⟩ = some (.string vl) from (Blk.new wr 54 #[.string nm, .string vl]).cell 1)
            clear hb6 hown hbi
            cases q
            · have Hk2 := Lib.hid (Hk.out rfl)
              clear Hk Hd
              go_wp2_with (first
                | (at_builtin; refine wpList_app _ rfl (.tmp 76) (.tmp 78) 37 rfl WB9 54 _ 2 32 Tryd.underlying37 infoFld rfl (by decide) _ _ _ rfl (hown6.alloc _) _ 1 1 (fldCells [(nm, vl)]) rfl (Rd.two _ _ _ _ (by simp)) (fldCells_one _) (hbi6.alloc _) (by omega) (by decide) ?_; intro A7 c7 w7 hown7 hb7 hle7))
              go_roundw
              case rel => exact ⟨j + 1, m + 1, A7, c7, by omega, by go_num, rfl, by rw [Hk2.out, fldCells_app]; exact hown7, hle7, by omega, hb7⟩
              case measure => simp [intOf]; omega
            · have Hd2 := Lib.hid (Hd.out rfl)
              clear Hk Hd
              go_wp2_with fail
              go_roundw
              case rel => exact ⟨j + 1, m, A5, c5, by omega, by go_num, rfl, by rw [Hd2.out]; exact hown6, hmc, by omega, hbi6⟩
              case measure => simp [intOf]; omega
          · obtain rfl : j = ns := by omega
            have he : st.take j = st := List.take_of_length_le (by have := Hls.out; omega)
            rw [he] at hown
            clear he hjt
            have HN5 := Lib.hid (HN.out.1.ext (g9.trans hbi))
            have hnk := Hnk.out
            go_wp2_with (first
              | (at_builtin; refine wpList_app _ rfl (.tmp 81) (.tmp 82) 37 rfl WB9 54 _ 2 32 Tryd.underlying37 infoFld rfl (by decide) _ _ _ rfl hown _ n' c' (fldCells N3) rfl HN5.out (fldCells_one _) hbi (by omega) (by decide) ?_; intro A7 c7 w7 hown7 hb7 hle7))
            go_ret2
            exact ⟨by rw [HU.out]; exact ⟨A7, m + n', c7, rfl, by rw [← fldCells_app] at hown7; exact Rd.of_own hown7, hle7⟩, h9.trans hb7⟩
      go_wp2_with fail
      refine (HT1.out _ h9).mono ?_; rintro e w10 ⟨rfl, hb10⟩
      have h10 := h9.trans hb10
      have g10 := g9.trans hb10; clear hb10
      cases T1 with
      | none =>
        rw [show tagV none = .agg #[.bool false, .string ⟨#[]⟩] from rfl, show (none : Option (Bool × ByteArray)).isSome = false from rfl]
        go_wp2_with fail
        have h10 := h10.alloc (.cells #[.bool false, .string ⟨#[]⟩] 65)
        have g10 := g10.alloc (.cells #[.bool false, .string ⟨#[]⟩] 65)
        have HY := Lib.hid (Blk.new w10 65 #[.bool false, .string ⟨#[]⟩])
        refine (HT2.out _ h10).mono ?_; rintro e w11 ⟨rfl, hb11⟩
        have h11 := h10.trans hb11
        have g11 := g10.trans hb11
        have HY1 := Lib.hid (HY.out.ext hb11)
        clear HY hb11 h10 g10
        generalize w10.heap.size = b10 at *
        cases T2 with
        | none =>
          rw [show tagV none = .agg #[.bool false, .string ⟨#[]⟩] from rfl, show (none : Option (Bool × ByteArray)).isSome = false from rfl]
          have HU := Lib.hid (show U = none by rw [Hu.out]; rfl)
          clear Hu
          go_wp2_with fail
          go_ret2
          exact ⟨by rw [HU.out]; rfl, h11.alloc _⟩
        | some y =>
          obtain ⟨y1, y2⟩ := y
          rw [show tagV (some (y1, y2)) = .agg #[.bool y1, .string y2] from rfl, show (some (y1, y2)).isSome = true from rfl]
          have HU := Lib.hid (show U = none by rw [Hu.out]; rfl)
          clear Hu
          go_wp2_with fail
          go_ret2
          exact ⟨by rw [HU.out]; rfl, h11.alloc _⟩
      | some x =>
        obtain ⟨x1, x2⟩ := x
        rw [show tagV (some (x1, x2)) = .agg #[.bool x1, .string x2] from rfl, show (some (x1, x2)).isSome = true from rfl]
        go_wp2_with fail
        have h10 := h10.alloc (.cells #[.bool x1, .string x2] 65)
        have g10 := g10.alloc (.cells #[.bool x1, .string x2] 65)
        have HY := Lib.hid (Blk.new w10 65 #[.bool x1, .string x2])
        refine (HT2.out _ h10).mono ?_; rintro e w11 ⟨rfl, hb11⟩
        have h11 := h10.trans hb11
        have g11 := g10.trans hb11
        have HY1 := Lib.hid (HY.out.ext hb11)
        clear HY hb11 h10 g10
        generalize w10.heap.size = b10 at *
        cases T2 with
        | none =>
          rw [show tagV none = .agg #[.bool false, .string ⟨#[]⟩] from rfl, show (none : Option (Bool × ByteArray)).isSome = false from rfl]
          have HU := Lib.hid (show U = none by rw [Hu.out]; rfl)
          clear Hu
          go_wp2_with fail
          go_ret2
          exact ⟨by rw [HU.out]; rfl, h11.alloc _⟩
        | some y =>
          obtain ⟨y1, y2⟩ := y
          rw [show tagV (some (y1, y2)) = .agg #[.bool y1, .string y2] from rfl, show (some (y1, y2)).isSome = true from rfl]
          have h11 := h11.alloc (.cells #[.bool y1, .string y2] 65)
          have g11 := g11.alloc (.cells #[.bool y1, .string y2] 65)
          have HZ := Lib.hid (Blk.new w11 65 #[.bool y1, .string y2])
          have HY2 := Lib.hid (HY1.out.alloc (.cells #[.bool y1, .string y2] 65))
          have z0 := HZ.out.cell 0; have z1 := HZ.out.cell 1; have zx0 := HY2.out.cell 0; have zx1 := HY2.out.cell 1
          go_wp2_with fail
          refine (val_Weak x1 y1 x2 y2 _).mono ?_; rintro e w12 ⟨rfl, hb12⟩
          have h12 := h11.trans hb12
          have g12 := g11.trans hb12; clear hb12
          have Hq := Lib.hid (show tgEq (some (x1, x2)) (some (y1, y2)) = eqT x2 y2 from rfl)
          generalize tgEq (some (x1, x2)) (some (y1, y2)) = tq at *
          obtain rfl := Hq.out
          cases hq : eqT x2 y2
          · skip
            rw [hq] at Hu
            have HU := Lib.hid (show U = none by rw [Hu.out]; rfl)
            clear Hu
            go_wp2_with fail
            go_ret2
            exact ⟨by rw [HU.out]; rfl, h12⟩
          · skip
            rw [hq] at Hu
            generalize w12 = WB12 at *
            have HU := Lib.hid (show U = some ((st.filter fun x => !hasF N3 x.1) ++ N3) by rw [Hu.out]; rfl)
            clear Hu
            go_wp2_with fail
            go_loopw [13, 67] (fun v i wi => ∃ j m A5 c5, j ≤ ns ∧ i = .int .i64 (j : Nat) ∧ v = .slice A5 m c5 ∧ wi.ownsRow WB12.heap.size 54 2 (.slice A5 m c5) m (fldCells ((st.take j).filter fun x => !hasF N3 x.1)) ∧ m ≤ c5 ∧ m ≤ j ∧ Ext WB12 wi) (fun _ i _ => ns - (intOf i).toNat)
            case atStart => exact ⟨0, 0, none, 0, Nat.zero_le _, rfl, rfl, World.ownsRow_nil _ _ _ _, Nat.le_refl _, Nat.le_refl _, Ext.refl _⟩
            case round =>
              obtain ⟨j, m, A5, c5, hj, rfl, rfl, hown, hmc, hmj, hbi⟩ := hrel
              by_cases hjt : j < ns
              · have hjt' : j < st.length := by have := Hls.out; omega
                obtain ⟨b, o, rfl, hc0, hc1⟩ := (HFs.out.ext (h12.trans hbi)).atF hjt'
                have hbd := (HSz.out.at_ hjt').1
                have Hk := Lib.hid (keep_step (nw := N3) hjt')
                have Hd := Lib.hid (drop_step (nw := N3) hjt')
                have HHas := Lib.hid (fun w5 (h5 : Ext W4 w5) => sto_has A' n' c' N3 st[j].1 w5 (HN.out.1.ext h5) (by have := Hnk.out; omega) (by omega) HB3.out)
                generalize hx : st[j] = x at *
                obtain ⟨nm, vl⟩ := x
                clear hx
                simp only at hbd hc0 hc1 Hk Hd HHas
                generalize hasF N3 nm = q at *
                go_wp2_with fail
                refine (HHas.out _ ((g12.trans hbi).alloc _)).mono ?_; rintro e w6 ⟨rfl, hb6⟩
                have hbi6 := (hbi.alloc (.cells #[.string nm, .string vl] 54)).trans hb6
                have hown6 := own_ext (hown.alloc (.cells #[.string nm, .string vl] 54)) hb6
                have x0 := hb6.cell (show (wr.alloc (.cells #[.string nm, .string vl] 54)).cell? ⟨wr.heap.size, 0, none⟩ = some (.string nm) from (Blk.new wr 54 #[.string nm, .string vl]).cell 0)
                have x1 := hb6.cell (show (wr.alloc (.cells #[.string nm, .string vl] 54)).cell? ⟨wr.heap.size, 1, none⟩ = some (.string vl) from (Blk.new wr 54 #[.string nm, .string vl]).cell 1)
                clear hb6 hown hbi
                cases q
                · have Hk2 := Lib.hid (Hk.out rfl)
                  clear Hk Hd
                  go_wp2_with (first
                    | (at_builtin; refine wpList_app _ rfl (.tmp 76) (.tmp 78) 37 rfl WB12 54 _ 2 32 Tryd.underlying37 infoFld rfl (by decide) _ _ _ rfl (hown6.alloc _) _ 1 1 (fldCells [(nm, vl)]) rfl (Rd.two _ _ _ _ (by simp)) (fldCells_one _) (hbi6.alloc _) (by omega) (by decide) ?_; intro A7 c7 w7 hown7 hb7 hle7))
                  go_roundw
                  case rel => exact ⟨j + 1, m + 1, A7, c7, by omega, by go_num, rfl, by rw [Hk2.out, fldCells_app]; exact hown7, hle7, by omega, hb7⟩
                  case measure => simp [intOf]; omega
                · have Hd2 := Lib.hid (Hd.out rfl)
                  clear Hk Hd
                  go_wp2_with fail
                  go_roundw
                  case rel => exact ⟨j + 1, m, A5, c5, by omega, by go_num, rfl, by rw [Hd2.out]; exact hown6, hmc, by omega, hbi6⟩
                  case measure => simp [intOf]; omega
              · obtain rfl : j = ns := by omega
                have he : st.take j = st := List.take_of_length_le (by have := Hls.out; omega)
                rw [he] at hown
                clear he hjt
                have HN5 := Lib.hid (HN.out.1.ext (g12.trans hbi))
                have hnk := Hnk.out
                go_wp2_with (first
                  | (at_builtin; refine wpList_app _ rfl (.tmp 81) (.tmp 82) 37 rfl WB12 54 _ 2 32 Tryd.underlying37 infoFld rfl (by decide) _ _ _ rfl hown _ n' c' (fldCells N3) rfl HN5.out (fldCells_one _) hbi (by omega) (by decide) ?_; intro A7 c7 w7 hown7 hb7 hle7))
                go_ret2
                exact ⟨by rw [HU.out]; exact ⟨A7, m + n', c7, rfl, by rw [← fldCells_app] at hown7; exact Rd.of_own hown7, hle7⟩, h12.trans hb7⟩
end Go.Proofs.YtphgaommokgfcaaDoor

namespace Go.Proofs.YtphgaommokgfcaaDoor
open Go.RowKit

theorem upd_some {st fr L : List Fd} (h : updS st fr = some L) : cflS st fr = false ∧ L = outS st fr := by
  unfold updS at h
  cases hc : cflS st fr
  · rw [hc] at h; injection h with h; exact ⟨rfl, h.symm⟩
  · rw [hc] at h; cases h
theorem updN_sub (fr : List Fd) : ∀ f ∈ updN fr, f ∈ fr := fun f h => by
  unfold updN at h
  exact strip_sub fr f (rem_sub _ clN f (rem_sub _ ceN f (rem_sub _ crN f h)))
theorem outS_bsz {B : Nat} {st fr : List Fd} (h1 : Bsz B st) (h2 : Bsz B fr) : Bsz B (outS st fr) := by
  intro f hf
  unfold outS at hf
  rcases List.mem_append.1 hf with h | h
  · exact h1 f (List.mem_filter.1 h).1
  · exact h2 f (updN_sub fr f h)
theorem updN_len (fr : List Fd) : (updN fr).length ≤ fr.length := by
  unfold updN remS stripS
  exact Nat.le_trans (List.length_filter_le _ _) (Nat.le_trans (List.length_filter_le _ _) (Nat.le_trans (List.length_filter_le _ _) (List.length_filter_le _ _)))
theorem outS_len (st fr : List Fd) : (outS st fr).length ≤ st.length + fr.length := by
  unfold outS
  rw [List.length_append]
  have := updN_len fr
  have h2 : (st.filter fun x => !hasF (updN fr) x.1).length ≤ st.length := List.length_filter_le _ _
  omega
theorem keep_three (st fr : List Fd) : ∀ m ∈ threeN, allS (outS st fr) m = allS st m := by
  obtain ⟨h1, h2, h3⟩ := upd_three fr
  intro m hm
  simp only [threeN, List.mem_cons, List.not_mem_nil, or_false] at hm
  rcases hm with rfl | rfl | rfl
  · exact out_keep h1
  · exact out_keep h2
  · exact out_keep h3
theorem get_here (fs : List Fd) (m : ByteArray) : decide (0 < (allS fs m).length) = hasF fs m := rfl
set_option maxHeartbeats 16000000 in
set_option maxRecDepth 100000 in
theorem keeps_walk (As : Option Addr) (ns cs : Nat) (st : List Fd) (Af : Option Addr) (nf cf : Nat) (fr : List Fd) (w : World) (hfs : RdF w As ns st) (hff : RdF w Af nf fr) (hbs : st.length + sumF st ≤ 1048576) (hbf : fr.length + sumF fr ≤ 1048576) (hg : GlH w) (hgl : Gl w) :
    Calls Tryd.prog 7 #[.slice As ns cs, .slice Af nf cf] w fun e w' => e = .returned (.bool true) ∧ Ext w w' := by
  have Hls := Lib.hid hfs.lenF
  have Hlf := Lib.hid hff.lenF
  have HLg := Lib.hid (fun w' (h : Ext w w') => large_two As ns cs st Af nf cf fr w' (hfs.ext h) (hff.ext h) hbs hbf)
  have Hno := Lib.hid (fun h => @large_no As ns cs st Af nf cf fr w hfs hff h)
  clear hbs hbf
  go_enter Tryd.func7, Tryd.ntmps7
  go_wp2_with fail
  refine (HLg.out _ (Ext.refl w) _ rfl).mono ?_; rintro e w1 ⟨rfl, hb1⟩
  generalize decide (4000 < tot15 [((As, ns, cs), st), ((Af, nf, cf), fr)]) = lg at *
  cases lg
  rotate_left
  · go_wp2_with fail
    refine (HLg.out _ hb1 _ rfl).mono ?_; rintro e w2 ⟨rfl, hb2⟩
    go_wp2_with fail
    go_ret
    exact ⟨rfl, hb1.trans hb2⟩
  obtain ⟨hns, hnf, hss, hsf, hzs, hzf⟩ := Hno.out rfl
  have hzs1 : Bsz 1048576 st := hzs.mono (by decide)
  have hzf1 : Bsz 6000 fr := hzf.mono (by decide)
  have HZ := Lib.hid (⟨hzs1, hzf1, hzf1.mono (by decide)⟩ : Bsz 1048576 st ∧ Bsz 6000 fr ∧ Bsz 1048576 fr)
  clear Hno HLg hzs hzf hzs1 hzf1
  go_wp2_with fail
  refine (law15_awake _ (hg.ext hb1) (hgl.ext hb1)).mono ?_; rintro e w2 ⟨rfl, hb2⟩
  have HE2 := Lib.hid (hb1.trans hb2)
  clear hb1 hb2
  go_wp2_with fail
  refine (law_Fields As ns cs st _ (hfs.ext HE2.out) (by omega)).mono ?_; rintro e w3 ⟨A1, c1, rfl, hf1, hk1, hb3, hown1⟩
  clear hown1
  have HE3 := Lib.hid (HE2.out.trans hb3)
  go_wp2_with fail
  refine (law_Fields Af nf cf fr _ (hff.ext HE3.out) (by omega)).mono ?_; rintro e w4 ⟨A2, c2, rfl, hf2, hk2, hb4, hown2⟩
  clear hown2
  have HE4 := Lib.hid (HE3.out.trans hb4)
  have HF1 := Lib.hid (hf1.ext hb4)
  have HF2 := Lib.hid hf2
  clear hf1 hf2 hb3 hb4 HE2 HE3
  go_wp2_with fail
  refine (sto_Update A1 ns c1 st A2 nf c2 fr w4 HF1.out HF2.out (by omega) hnf HZ.out.1 HZ.out.2.1).mono ?_; rintro e w5 ⟨hup, hb5⟩
  have HE5 := Lib.hid (HE4.out.trans hb5)
  have HF15 := Lib.hid (HF1.out.ext hb5)
  have HF25 := Lib.hid (HF2.out.ext hb5)
  clear hb5 HE4 HF1 HF2
  cases hu : updS st fr with
  | none =>
    rw [hu] at hup
    obtain rfl := hup
    clear hu
    rw [show errV 20 = .iface 44 (.int .i64 20) from rfl]
    go_wp2_with fail
    refine (base_Is 20 20 (by decide) (by decide) (by decide) _).mono ?_; rintro e w6 ⟨rfl, hb6⟩
    go_wp2_with fail
    go_ret
    exact ⟨rfl, HE5.out.trans hb6⟩
  | some L =>
    rw [hu] at hup
    obtain ⟨A5, n5, c5, rfl, hf5, hc5⟩ := hup
    obtain ⟨hcf, hLo⟩ := upd_some hu
    have Hag := Lib.hid (show updS L fr = some L from hLo ▸ upd_again hcf)
    have HK := Lib.hid (show ∀ m, hasF fr m = false → allS L m = allS st m from fun m h => hLo ▸ keep_other h)
    have H3 := Lib.hid (show ∀ m ∈ threeN, allS L m = allS st m from hLo ▸ keep_three st fr)
    have hLz : Bsz 1048576 L := hLo ▸ outS_bsz HZ.out.1 HZ.out.2.2
    have hLl : L.length ≤ st.length + fr.length := hLo ▸ outS_len st fr
    have hn5 : n5 ≤ 4000 := by have := hf5.lenF; have := Hls.out; have := Hlf.out; omega
    have HLz := Lib.hid hLz
    have HF5 := Lib.hid hf5
    clear hu hcf hLo hLz hLl hf5
    have HAf := Lib.hid (fun (m : ByteArray) (hm : m.size ≤ 1048576) w' (h : Ext w5 w') => field_All A5 n5 c5 L m w' (HF5.out.ext h) (by omega) (by omega) (fun f hf => Nat.le_trans (HLz.out f hf).1 (by decide)))
    have HAa := Lib.hid (fun (m : ByteArray) (hm : m.size ≤ 1048576) w' (h : Ext w5 w') => field_All A1 ns c1 st m w' (HF15.out.ext h) (by omega) (by omega) (fun f hf => Nat.le_trans (HZ.out.1 f hf).1 (by decide)))
    have Hla := Lib.hid (fun (m : ByteArray) => (⟨len_all HF5.out m, len_all HF15.out m⟩ : _ ∧ _))
    go_wp2_with fail
    go_loopw [49] (fun i wr => ∃ k, k ≤ ns ∧ i = .int .i64 (k : Nat) ∧ Ext w5 wr) (fun i _ => ns - (intOf i).toNat)
    case atStart => exact ⟨0, Nat.zero_le _, rfl, Ext.refl _⟩
    case round =>
      obtain ⟨k, hk, rfl, hbr⟩ := hrel
      by_cases hlt : k < ns
      · have hlt' : k < st.length := by have := Hls.out; omega
        obtain ⟨b, o, rfl, hc0, hc1⟩ := (hfs.ext (HE5.out.trans hbr)).atF hlt'
        have hbd := (HZ.out.1.at_ hlt').1
        have Hk := Lib.hid (HK.out st[k].1)
        generalize st[k].1 = nm at *
        generalize st[k].2 = vl at *
        have HGet := Lib.hid (fun w' (h : Ext w5 w') => field_Get A2 nf c2 fr nm w' (HF25.out.ext h) (by omega) (by omega) 1048576 (by decide) HZ.out.2.2 (by omega))
        rw [get_here] at HGet
        generalize hasF fr nm = q at *
        have hbr2 := hbr.alloc (.cells #[.string nm, .string vl] 28)
        have HN := Lib.hid (Blk.new wr 28 #[.string nm, .string vl])
        go_wp2_with fail
        generalize wr.alloc (.cells #[.string nm, .string vl] 28) = wq at *
        generalize wr.heap.size = bq at *
        refine (HGet.out _ hbr2).mono ?_; rintro e w6 ⟨rfl, hb6⟩
        have hx0 : w6.cell? ⟨bq, 0, none⟩ = some (.string nm) := (HN.out.ext hb6).cell 0
        have hbr6 := hbr2.trans hb6
        clear HGet hb6 hc0 hc1 hbr hbr2 HN
        cases q
        rotate_left
        · clear Hk
          go_wp2_with fail
          go_roundw
          case rel => exact ⟨k + 1, by omega, by go_num, hbr6⟩
          case measure => simp [intOf]; omega
        have Heq := Lib.hid (decide_eq_true (Hk.out rfl))
        clear Hk
        go_wp2_with fail
        have hE := (Ext.refl w6).drew
        refine wp_region_held_drew (S := (fun w' => w'.cell? ⟨bq, 0, none⟩ = some (.string nm))) (by kernel_rfl) ?_ (fun hHeld => ?_)
        · (try dsimp only); exact hE.cell hx0
        refine wpAnyH_take (i := 0) (oi := { dst := some 61, op := _, type := _, pos := _, after := _, guard := _ }) (v := ?_) rfl (by kernel_rfl) (by kernel_rfl) (by kernel_rfl) (fun _ _ _ h => h) (Or.inl ⟨by rfl, ?_⟩) (by assumption) ?_
        rotate_left
        · (intro w hSw; (try dsimp only at hSw); go_simp; (try with_reducible rfl))
        (try simp only [Act.put, List.setIfInBounds_toArray, List.set_cons_zero, List.set_cons_succ])
        refine wpAnyH_take (i := 1) (oi := { dst := some 62, op := _, type := _, pos := _, after := _, guard := _ }) (v := ?_) rfl (by kernel_rfl) (by kernel_rfl) (by kernel_rfl) (fun _ _ _ h => h) (Or.inl ⟨by rfl, ?_⟩) (by assumption) ?_
        rotate_left
        · (intro w hSw; (try dsimp only at hSw); go_simp; (try with_reducible rfl))
        (try simp only [Act.put, List.setIfInBounds_toArray, List.set_cons_zero, List.set_cons_succ])
        refine wpAnyH_take (i := 2) (oi := { dst := some 63, op := _, type := _, pos := _, after := _, guard := _ }) (v := ?_) rfl (by kernel_rfl) (by kernel_rfl) (by kernel_rfl) (fun _ _ _ h => h) (Or.inl ⟨by rfl, ?_⟩) (by assumption) ?_
        rotate_left
        · (intro w hSw; (try dsimp only at hSw); go_simp; (try with_reducible rfl))
        (try simp only [Act.put, List.setIfInBounds_toArray, List.set_cons_zero, List.set_cons_succ])
        refine wpAnyH_take (i := 4) (oi := { dst := some 65, op := _, type := _, pos := _, after := _, guard := _ }) (v := ?_) rfl (by kernel_rfl) (by kernel_rfl) (by kernel_rfl) (fun _ _ _ h => h) (Or.inl ⟨by rfl, ?_⟩) (by assumption) ?_
        rotate_left
        · (intro w hSw; (try dsimp only at hSw); go_simp; (try with_reducible rfl))
        (try simp only [Act.put, List.setIfInBounds_toArray, List.set_cons_zero, List.set_cons_succ])
        refine wpAnyH_take (i := 5) (oi := { dst := some 66, op := _, type := _, pos := _, after := _, guard := _ }) (v := ?_) rfl (by kernel_rfl) (by kernel_rfl) (by kernel_rfl) (fun _ _ _ h => h) (Or.inl ⟨by rfl, ?_⟩) (by assumption) ?_
        rotate_left
        · (intro w hSw; (try dsimp only at hSw); go_simp; (try with_reducible rfl))
        (try simp only [Act.put, List.setIfInBounds_toArray, List.set_cons_zero, List.set_cons_succ])
        refine wpAnyH_take (i := 6) (oi := { dst := some 67, op := _, type := _, pos := _, after := _, guard := _ }) (v := ?_) rfl (by kernel_rfl) (by kernel_rfl) (by kernel_rfl) (fun _ _ _ h => h) (Or.inl ⟨by rfl, ?_⟩) (by assumption) ?_
        rotate_left
        · (intro w hSw; (try dsimp only at hSw); go_simp; (try with_reducible rfl))
        (try simp only [Act.put, List.setIfInBounds_toArray, List.set_cons_zero, List.set_cons_succ])
        refine wpAnyH_ready (rs := [3]) (by kernel_rfl) (by simp) ?_
        refine AllReadyH.cons (o := { dst := some 64, op := _, type := _, pos := _, after := _, guard := _ }) rfl (fun K hK => ?_) AllReadyH.nil
        go_simp
        refine (HAf.out nm hbd _ (hbr6.trans hE)).mono ?_; rintro e w7 ⟨A7, n7, c7, rfl, hr7, hc7, hb7⟩; replace hE := hE.trans hb7; have hn7 : n7 ≤ 4000 := (by have := hr7.lenS; have := (Hla.out nm).1; omega); clear hb7
        try go_wp2_with fail
        refine hK.out _ _ ?_ (fun hHeld => ?_)
        · (try dsimp only); exact hE.cell hx0
        clear hK K
        (try simp only [Act.put, List.setIfInBounds_toArray, List.set_cons_zero, List.set_cons_succ])
        refine wpAnyH_ready (rs := [7]) (by kernel_rfl) (by simp) ?_
        refine AllReadyH.cons (o := { dst := some 68, op := _, type := _, pos := _, after := _, guard := _ }) rfl (fun K hK => ?_) AllReadyH.nil
        go_simp
        refine (HAa.out nm hbd _ (hbr6.trans hE)).mono ?_; rintro e w8 ⟨A8, n8, c8, rfl, hr8, hc8, hb8⟩; replace hE := hE.trans hb8; replace hr7 := hr7.ext hb8; have hn8 : n8 ≤ 4000 := (by have := hr8.lenS; have := (Hla.out nm).2; omega); clear hb8
        try go_wp2_with fail
        refine hK.out _ _ ?_ (fun hHeld => ?_)
        · (try dsimp only); exact hE.cell hx0
        clear hK K
        (try simp only [Act.put, List.setIfInBounds_toArray, List.set_cons_zero, List.set_cons_succ])
        refine wpAnyH_ready (rs := [8]) (by kernel_rfl) (by simp) ?_
        refine AllReadyH.cons (o := { dst := some 69, op := _, type := _, pos := _, after := _, guard := _ }) rfl (fun K hK => ?_) AllReadyH.nil
        go_simp
        refine (base_Texts A7 A8 n7 c7 n8 c8 _ _ _ hr7 hr8 (by omega) (by omega)).mono ?_; rintro e w9 ⟨rfl, hb9⟩; rw [Heq.out]; replace hE := hE.trans hb9; clear hb9
        try go_wp2_with fail
        refine hK.out _ _ ?_ (fun hHeld => ?_)
        · (try dsimp only); exact hE.cell hx0
        clear hK K
        (try simp only [Act.put, List.setIfInBounds_toArray, List.set_cons_zero, List.set_cons_succ])
        refine wpAnyH_take (i := 9) (oi := { dst := some 70, op := _, type := _, pos := _, after := _, guard := _ }) (v := ?_) rfl (by kernel_rfl) (by kernel_rfl) (by kernel_rfl) (fun _ _ _ h => h) (Or.inl ⟨by rfl, ?_⟩) (by assumption) ?_
        rotate_left
        · (intro w hSw; (try dsimp only at hSw); go_simp; (try with_reducible rfl))
        (try simp only [Act.put, List.setIfInBounds_toArray, List.set_cons_zero, List.set_cons_succ])
        refine wpAnyH_done (by kernel_rfl) ?_ _
        go_wp2_with fail
        go_roundw
        case rel => exact ⟨k + 1, by omega, by go_num, hbr6.trans hE⟩
        case measure => simp [intOf]; omega
      · obtain rfl : k = ns := by omega
        clear hlt hk
        have HL3 := Lib.hid (show RdS (wr.alloc (.cells #[.string ⟨#[99, 111, 110, 116, 101, 110, 116, 45, 108, 101, 110, 103, 116, 104]⟩, .string ⟨#[99, 111, 110, 116, 101, 110, 116, 45, 101, 110, 99, 111, 100, 105, 110, 103]⟩, .string ⟨#[99, 111, 110, 116, 101, 110, 116, 45, 114, 97, 110, 103, 101]⟩] 9)) (some ⟨wr.heap.size, 0, none⟩) 3 threeN from Rd.lit wr #[.string ⟨#[99, 111, 110, 116, 101, 110, 116, 45, 108, 101, 110, 103, 116, 104]⟩, .string ⟨#[99, 111, 110, 116, 101, 110, 116, 45, 101, 110, 99, 111, 100, 105, 110, 103]⟩, .string ⟨#[99, 111, 110, 116, 101, 110, 116, 45, 114, 97, 110, 103, 101]⟩] 9 rfl 1 3 rfl)
        have hbr2 := hbr.alloc (.cells #[.string ⟨#[99, 111, 110, 116, 101, 110, 116, 45, 108, 101, 110, 103, 116, 104]⟩, .string ⟨#[99, 111, 110, 116, 101, 110, 116, 45, 101, 110, 99, 111, 100, 105, 110, 103]⟩, .string ⟨#[99, 111, 110, 116, 101, 110, 116, 45, 114, 97, 110, 103, 101]⟩] 9)
        go_wp2_with fail
        generalize wr.alloc (.cells #[.string ⟨#[99, 111, 110, 116, 101, 110, 116, 45, 108, 101, 110, 103, 116, 104]⟩, .string ⟨#[99, 111, 110, 116, 101, 110, 116, 45, 101, 110, 99, 111, 100, 105, 110, 103]⟩, .string ⟨#[99, 111, 110, 116, 101, 110, 116, 45, 114, 97, 110, 103, 101]⟩] 9) = w6 at *
        generalize wr.heap.size = b6 at *
        clear hbr
        go_loopw [74] (fun i wi => ∃ j, j ≤ 3 ∧ i = .int .i64 (j : Nat) ∧ Ext w6 wi) (fun i _ => 3 - (intOf i).toNat)
        case atStart => exact ⟨0, Nat.zero_le _, rfl, Ext.refl _⟩
        case round =>
          obtain ⟨j, hj, rfl, hbi⟩ := hrel
          have hbi5 := hbr2.trans hbi
          by_cases hjt : j < 3
          · have hjt' : j < threeN.length := hjt
            obtain ⟨b, o, hbo, hd0⟩ := (HL3.out.ext hbi).atS hjt'
            injection hbo with hbo
            injection hbo with e1 e2
            subst e1; subst e2
            rw [Nat.zero_add] at hd0
            have hbd := three_sz j hjt'
            have Heq := Lib.hid (decide_eq_true (H3.out threeN[j] (List.getElem_mem hjt')))
            generalize threeN[j] = nm at *
            go_wp2_with fail
            refine (HAf.out nm (by omega) _ hbi5).mono ?_; rintro e w7 ⟨A7, n7, c7, rfl, hr7, hc7, hb7⟩
            have hn7 : n7 ≤ 4000 := by have := hr7.lenS; have := (Hla.out nm).1; omega
            go_wp2_with fail
            refine (HAa.out nm (by omega) _ (hbi5.trans hb7)).mono ?_; rintro e w8 ⟨A8, n8, c8, rfl, hr8, hc8, hb8⟩
            have hn8 : n8 ≤ 4000 := by have := hr8.lenS; have := (Hla.out nm).2; omega
            have HT := Lib.hid (base_Texts A7 A8 n7 c7 n8 c8 _ _ _ (hr7.ext hb8) hr8 (by omega) (by omega))
            rw [Heq.out] at HT
            clear hr7 hr8 hc7 hc8
            go_wp2_with fail
            refine HT.out.mono ?_; rintro e w9 ⟨rfl, hb9⟩
            go_wp2_with fail
            go_roundw
            case rel => exact ⟨j + 1, by omega, by go_num, hbi.trans (hb7.trans (hb8.trans hb9))⟩
            case measure => simp [intOf]; omega
          · obtain rfl : j = 3 := by omega
            clear hjt hj
            have HF5r := Lib.hid (HF5.out.ext hbi5)
            have HU := Lib.hid (sto_Update A5 n5 c5 L A2 nf c2 fr wr HF5r.out (HF25.out.ext hbi5) (by omega) hnf HLz.out HZ.out.2.1)
            rw [Hag.out] at HU
            go_wp2_with fail
            refine HU.out.mono ?_; rintro e w7 ⟨⟨A7, n7, c7, rfl, hf7, hc7⟩, hb7⟩
            have hn7 : n7 ≤ 4000 := by have := hf7.lenF; have := HF5.out.lenF; omega
            have HS := Lib.hid (field_Same A7 A5 n7 c7 n5 c5 L L w7 hf7 (HF5r.out.ext hb7) (by omega) (by omega) (HLz.out.mono (by decide)) (HLz.out.mono (by decide)))
            rw [sameS_refl] at HS
            clear hf7
            go_wp2_with fail
            refine HS.out.mono ?_; rintro e w8 ⟨rfl, hb8⟩
            go_wp2_with fail
            go_ret
            exact ⟨rfl, HE5.out.trans (hbi5.trans (hb7.trans hb8))⟩
end Go.Proofs.YtphgaommokgfcaaDoor
