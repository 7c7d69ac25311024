/- FieldMoves returns true: the walk. -/
import Derived.Test.YteibmmhdlikckaaLawSets
import Derived.Test.YteibmmhdlikckaaPlain3
namespace Go.Proofs.Yteibmmhdlikckaa
open Go.RowKit

/-- A row of the call's own, all cells known. -/
theorem Rd.set {w : World} {A : Option Addr} {k n : Nat} {xs : List Value} (h : Rd w k A n xs) {g o j : Nat} (hA : A = some ⟨g, o, none⟩) (hj : j < xs.length) (u : Value) : Rd (w.setCell ⟨g, o + j, none⟩ u) k A n (xs.set j u) := by
  refine ⟨by simpa using h.1, fun _ => ⟨g, o, hA, fun i v hi => ?_⟩⟩
  obtain ⟨b, o', hA', hc⟩ := h.2 (by omega)
  rw [hA] at hA'
  injection hA' with hA'
  injection hA' with e1 e2
  subst e1; subst e2
  by_cases hij : i = j
  · subst hij
    rw [List.getElem?_set_self hj] at hi
    injection hi with hi
    subst hi
    exact World.cell?_setCell_same _ _ _ (hc i _ (List.getElem?_eq_getElem hj))
  · rw [List.getElem?_set_ne (Ne.symm hij)] at hi
    rw [World.cell?_setCell_other _ _ _ _ (by intro e; injection e with _ e; omega)]
    exact hc i v hi
theorem fldCells_set : ∀ (fs : List Fd) (i : Nat) (x : Fd), i < fs.length → fldCells (fs.set i x) = ((fldCells fs).set (i * 2) (.string x.1)).set (i * 2 + 1) (.string x.2)
  | f :: r, 0, x, _ => rfl
  | f :: r, i + 1, x, h => by
    have := fldCells_set r i x (by simpa using h)
    simp only [List.set_cons_succ, fldCells, List.flatMap_cons] at *
    rw [this, show (i + 1) * 2 = i * 2 + 2 by omega, show i * 2 + 2 + 1 = i * 2 + 1 + 2 by omega]
    simp
def swapS (fs : List Fd) (i : Nat) (x y : Fd) : List Fd := (fs.set i y).set (i + 1) x
theorem swap_split {fs : List Fd} {i : Nat} (h : i + 1 < fs.length) : swapS fs i (fs[i]'(by omega)) fs[i + 1] = fs.take i ++ fs[i + 1] :: fs[i]'(by omega) :: fs.drop (i + 2) ∧ fs = fs.take i ++ (fs[i]'(by omega)) :: fs[i + 1] :: fs.drop (i + 2) := by
  have e : fs = fs.take i ++ (fs[i]'(by omega)) :: fs[i + 1] :: fs.drop (i + 2) := by
    rw [← List.drop_eq_getElem_cons h, ← List.drop_eq_getElem_cons (show i < fs.length by omega), List.take_append_drop]
  refine ⟨?_, e⟩
  have hl : (fs.take i).length = i := by simp; omega
  generalize fs[i]'(by omega) = x at *
  generalize fs[i + 1] = y at *
  generalize hT : fs.take i = T at *
  generalize hD : fs.drop (i + 2) = D at *
  clear hT hD
  subst e
  unfold swapS
  rw [List.set_append_right _ _ (by omega), hl, Nat.sub_self, List.set_cons_zero, List.set_append_right _ _ (by omega), hl, show i + 1 - i = 1 by omega, List.set_cons_succ, List.set_cons_zero]
theorem swap_all {T D : List Fd} {x y : Fd} (h : lowS x.1 ≠ lowS y.1) (o : ByteArray) : allS (T ++ y :: x :: D) o = allS (T ++ x :: y :: D) o := by
  rw [allS_app, allS_app, allS_cons, allS_cons, allS_cons, allS_cons]
  congr 1
  by_cases h1 : isN o x = true
  · have h2 : isN o y = false := by
      rw [Bool.eq_false_iff]; intro h3
      exact h ((isN_iff.1 h1).trans (isN_iff.1 h3).symm)
    simp [h1, h2]
  · simp [h1]
theorem swap_facts {fs : List Fd} {i : Nat} (h : i + 1 < fs.length) (hne : lowS (fs[i]'(by omega)).1 ≠ lowS fs[i + 1].1) :
    sameS fs (swapS fs i (fs[i]'(by omega)) fs[i + 1]) = true ∧ sumF (swapS fs i (fs[i]'(by omega)) fs[i + 1]) = sumF fs ∧ (swapS fs i (fs[i]'(by omega)) fs[i + 1]).length = fs.length ∧ ∀ B, Bsz B fs → Bsz B (swapS fs i (fs[i]'(by omega)) fs[i + 1]) := by
  obtain ⟨e1, e2⟩ := swap_split h
  rw [e1]
  generalize fs[i]'(by omega) = x at *
  generalize fs[i + 1] = y at *
  generalize fs.take i = T at *
  generalize fs.drop (i + 2) = D at *
  clear e1
  subst e2
  refine ⟨sameS_iff.2 ⟨by simp, fun f _ => (swap_all hne f.1).symm⟩, ?_, by simp, fun B hB f hf => hB f ?_⟩
  · simp only [sumF, List.map_append, List.map_cons, List.sum_append, List.sum_cons]; omega
  · simp only [List.mem_append, List.mem_cons] at *
    rcases hf with h | h | h | h
    · exact .inl h
    · exact .inr (.inr (.inl h))
    · exact .inr (.inl h)
    · exact .inr (.inr (.inr h))
theorem sumF_add (fs : List Fd) (a b : ByteArray) : sumF (fs ++ [(lowS a, b)]) = sumF fs + (a.size + b.size) := by
  simp [sumF, lowS_size]

set_option maxRecDepth 100000 in
set_option maxHeartbeats 4000000 in
theorem law_FieldMoves (A : Option Addr) (n c : Nat) (fs : List Fd) (at_ : Int) (w : World) (hf : RdF w A n fs) (hat : 0 ≤ at_) (hat2 : at_ ≤ 255)
    (hn : n ≤ 9223372036854775807) (B : Nat) (hB : B ≤ 140737488355328) (hsz : Bsz B fs) :
    Calls Try.prog 5 #[.slice A n c, .int .u8 at_] w fun e w' => e = .returned (.bool true) ∧ Ext w w' := by
  have hl := hf.lenF
  go_enter Try.func5, Try.ntmps5
  have Hl := Lib.hid hl; clear hl
  go_wp2_with fail
  refine (law_awake _).mono ?_; rintro e w1 ⟨rfl, hb1⟩
  go_wp2_with fail
  have hf1 := hf.ext hb1
  refine (law_small _ _ _ _ _ hf1 hn B hB hsz).mono ?_; rintro e w2 ⟨rfl, hb2⟩
  have hf2 := hf1.ext hb2
  have hbe2 := hb1.trans hb2
  cases hsm : smallS fs
  · clear hsm
    go_wp2_with fail
    refine (law_awake _).mono ?_; rintro e w3 ⟨rfl, hb3⟩
    go_wp2_with fail
    go_ret
    exact ⟨rfl, hbe2.trans hb3⟩
  · obtain ⟨hs1, hs4⟩ := gets_small hsm
    have hn70 : n ≤ 70 := by have := Hl.out; omega
    have hbs := (small_bsz hs4).mono (show 6000 ≤ 4611686018427387904 by omega)
    clear hsm
    by_cases hn2 : n < 2
    · go_wp2_with fail
      refine (law_awake _).mono ?_; rintro e w3 ⟨rfl, hb3⟩
      go_wp2_with fail
      go_ret
      exact ⟨rfl, hbe2.trans hb3⟩
    · go_wp2_with fail
      refine (law_Fields _ _ _ _ _ hf2 (by omega)).mono ?_; rintro e w3 ⟨A3, c3, rfl, hf3, hc3, hb3, -⟩
      have hg3 := hf2.ext hb3
      go_wp2_with fail
      refine (law_Fields _ _ _ _ _ hg3 (by omega)).mono ?_; rintro e w4 ⟨A4, c4, rfl, hr4, hc4, hb4, hown4⟩
      have hg4 := hg3.ext hb4
      obtain ⟨i, hi⟩ : ∃ i : Nat, at_ % ((n : Int) - 1) = i := ⟨(at_ % ((n : Int) - 1)).toNat, by have := Int.emod_nonneg at_ (show (n : Int) - 1 ≠ 0 by omega); omega⟩
      have hin : i + 1 < n := by have := Int.emod_lt_of_pos at_ (show (0 : Int) < (n : Int) - 1 by omega); omega
      go_upto_region 5 with fail
      rw [hi]
      have Hi := Lib.hid hi; clear hi
      have hi1 : i < fs.length := by have := Hl.out; omega
      have hi2 : i + 1 < fs.length := by have := Hl.out; omega
      obtain ⟨b, o, hA, hx0, hx1⟩ := hg4.atF hi1
      obtain ⟨b', o', hA', hy0, hy1⟩ := hg4.atF hi2
      subst hA
      injection hA' with hA'
      injection hA' with e1 e2
      subst e1; subst e2
      obtain ⟨hba, -⟩ := hbs.at_ hi1
      obtain ⟨hbb, -⟩ := hbs.at_ hi2
      have hwr : IntKind.i64.wrap ((i : Int) + 1) = (i : Int) + 1 := IntWalk.i64_in _ (by omega)
      have hto : ((i : Int) + 1).toNat = i + 1 := by omega
      have hk0 : (0 : Int) ≤ (i : Int) + 1 := by omega
      have hk1 : (i : Int) + 1 < (n : Int) := by omega
      have hk2 : (i : Int) < (n : Int) := by omega
      by_cases hne : lowS fs[i].1 = lowS fs[i + 1].1
      · have hq : ((lowS fs[i].1).toList == (lowS fs[i + 1].1).toList) = true := eqS_iff.2 hne
        have hq2 := neB hq
        clear hne
        generalize hxa : fs[i].1 = xa at *
        generalize hya : fs[i + 1].1 = ya at *
        have Hxa := Lib.hid hxa; clear hxa hya
        go_region_held3 (fun w' => w'.cell? ⟨b, o + i * 2, none⟩ = some (.string xa) ∧ w'.cell? ⟨b, o + (i + 1) * 2, none⟩ = some (.string ya)) (first | exact ⟨hx0, hy0⟩ | exact ⟨hx5, hy5⟩ | exact ⟨hx6, hy6⟩)
          (first
          | (go_at_call_of 18 (Value.string xa); refine (ref_Lower xa _ (by omega)).mono ?_; rintro e w5 ⟨rfl, hb5⟩; have hx5 := hb5.cell hx0; have hy5 := hb5.cell hy0)
          | (go_at_call_of 18 (Value.string ya); refine (ref_Lower ya _ (by omega)).mono ?_; rintro e w6 ⟨rfl, hb6⟩; have hx6 := hb6.cell hx5; have hy6 := hb6.cell hy5))
        all_goals
          have hb37 : Ext w3 w6 := ((hb4.drew.trans hb5).trans hb6)
          have hr7 := (hr4.ext ((Ext.refl w4).drew.trans hb5)).ext hb6
          obtain ⟨gs, hgs⟩ : ∃ gs, gs = fs := ⟨_, rfl⟩
          have hsame : sameS fs gs = true := by rw [hgs]; exact sameS_refl fs
          have hsum : sumF gs = sumF fs := by rw [hgs]
          have hbg6 : Bsz 6000 gs := by rw [hgs]; exact small_bsz hs4
          rw [← hgs] at hr7
          clear hgs
          have hlg := hr7.lenF
          have hf7 := hf3.ext hb37
          have hl7 := hg3.ext hb37
          obtain ⟨b7, o7, hA7, hz0, hz1⟩ := hl7.atF hi1
          injection hA7 with hA7
          injection hA7 with e1 e2
          subst e1; subst e2
          rw [Hxa.out] at hz0
          have hbs1 := hbs.mono (show 4611686018427387904 ≤ 4611686018427387904 by omega)
          have hbs6 : Bsz 6000 fs := small_bsz hs4
          have hbs7 : Bsz 1073741824 fs := hbs6.mono (by omega)
          have hbg7 : Bsz 1073741824 gs := hbg6.mono (by omega)
          have hno : sameS fs (gs ++ [(lowS xa, (⟨#[]⟩ : ByteArray))]) = false := (sameS_len (by rw [List.length_append, hlg, Hl.out]; simp)).symm
          have hxs : xa.size ≤ 6000 := by have := (hbs6.at_ hi1).1; rw [Hxa.out] at this; exact this
          have he0 : (⟨#[]⟩ : ByteArray).size = 0 := rfl
          have hba1 : Bsz 1073741824 (gs ++ [(lowS xa, (⟨#[]⟩ : ByteArray))]) := addS_bsz (by omega) (by rw [he0]; omega) hbg7
          have hba2 : Bsz 6000 (gs ++ [(lowS ⟨#[97, 98]⟩, (⟨#[99]⟩ : ByteArray))]) := addS_bsz (by decide) (by decide) hbg6
          have hsa : sumF (gs ++ [(lowS ⟨#[97, 98]⟩, (⟨#[99]⟩ : ByteArray))]) = sumF fs + 3 := by rw [sumF_add, hsum]; rfl
          have Hsame := Lib.hid hsame; have Hsum := Lib.hid hsum; have Hno := Lib.hid hno; have Hsa := Lib.hid hsa; have Hlg := Lib.hid hlg
          clear hsame hsum hno hsa hlg he0 hq hq2 hwr hto
          go_wp2_with fail
          refine (field_Same _ _ _ _ _ _ _ _ _ hf7 hr7 (by omega) (by omega) hbs7 hbg7).mono ?_; rintro e w8 ⟨rfl, hb8⟩
          rw [Hsame.out]
          go_wp2_with fail
          refine (field_Size _ _ _ _ _ (hf7.ext hb8) (by omega) 6000 (by omega) hbs6).mono ?_; rintro e w9 ⟨rfl, hb9⟩
          go_wp2_with fail
          refine (field_Size _ _ _ _ _ ((hr7.ext hb8).ext hb9) (by omega) 6000 (by omega) hbg6).mono ?_; rintro e w10 ⟨rfl, hb10⟩
          rw [Hsum.out]
          have hb810 := (hb8.trans hb9).trans hb10
          have hz10 := hb810.cell hz0
          generalize hSF : sumF fs = SF at *
          have HSF := Lib.hid hSF; clear hSF
          go_wp2_with fail
          refine (field_Add _ _ _ _ _ _ _ (hr7.ext hb810) (by omega) (by omega)).mono ?_; rintro e w11 ⟨A11, c11, rfl, hr11, hc11, hb11, -⟩
          go_wp2_with fail
          refine (field_Same _ _ _ _ _ _ _ _ _ ((hf7.ext hb810).ext hb11) hr11 (by omega) (by omega) hbs7 hba1).mono ?_; rintro e w12 ⟨rfl, hb12⟩
          rw [Hno.out]
          go_wp2_with fail
          refine (field_Add _ _ _ _ _ _ _ (((hr7.ext hb810).ext hb11).ext hb12) (by omega) (by decide)).mono ?_; rintro e w13 ⟨A13, c13, rfl, hr13, hc13, hb13, -⟩
          go_wp2_with fail
          refine (field_Size _ _ _ _ _ hr13 (by omega) 6000 (by omega) hba2).mono ?_; rintro e w14 ⟨rfl, hb14⟩
          rw [Hsa.out]
          have hb814 := (((hb810.trans hb11).trans hb12).trans hb13).trans hb14
          go_wp2_with fail
          refine (field_Size _ _ _ _ _ (hf7.ext hb814) (by omega) 6000 (by omega) hbs6).mono ?_; rintro e w15 ⟨rfl, hb15⟩
          rw [HSF.out]
          go_wp2_with fail
          go_ret
          exact ⟨congrArg (fun x => Ending.returned (.bool x)) (beq_iff_eq.2 (by omega)), (((hbe2.trans hb3).trans hb37).trans hb814).trans hb15⟩
      · have hq := eqB_no hne
        have hq2 := neB' hq
        have hsw := swap_facts hi2 hne
        have Hsw := Lib.hid hsw
        clear hne hsw
        generalize hxa : fs[i].1 = xa at *
        generalize hya : fs[i + 1].1 = ya at *
        have Hxa := Lib.hid hxa; have Hya := Lib.hid hya; clear hxa hya
        go_region_held3 (fun w' => w'.cell? ⟨b, o + i * 2, none⟩ = some (.string xa) ∧ w'.cell? ⟨b, o + (i + 1) * 2, none⟩ = some (.string ya)) (first | exact ⟨hx0, hy0⟩ | exact ⟨hx5, hy5⟩ | exact ⟨hx6, hy6⟩)
          (first
          | (go_at_call_of 18 (Value.string xa); refine (ref_Lower xa _ (by omega)).mono ?_; rintro e w5 ⟨rfl, hb5⟩; have hx5 := hb5.cell hx0; have hy5 := hb5.cell hy0)
          | (go_at_call_of 18 (Value.string ya); refine (ref_Lower ya _ (by omega)).mono ?_; rintro e w6 ⟨rfl, hb6⟩; have hx6 := hb6.cell hx5; have hy6 := hb6.cell hy5))
        all_goals
          have hb46 : Ext w4 w6 := ((Ext.refl w4).drew.trans hb5).trans hb6
          have hr6 := hr4.ext hb46
          have hwA := (Wr.of_own hown4 (Nat.le_refl _)).ext hb46
          obtain ⟨g, oo, hgA, hp0, hp1⟩ := hr6.atF hi1
          obtain ⟨g', oo', hgA', hs0, hs1'⟩ := hr6.atF hi2
          obtain ⟨g2, v2, hg2, hlo, hhi, -, hfz0⟩ := hwA.at_ (show i * 2 < n * 2 by omega)
          obtain ⟨g3, v3, hg3', -, -, -, hfz1⟩ := hwA.at_ (show i * 2 + 1 < n * 2 by omega)
          obtain ⟨g4, v4, hg4', -, -, -, hfz2⟩ := hwA.at_ (show (i + 1) * 2 < n * 2 by omega)
          obtain ⟨g5, v5, hg5', -, -, -, hfz3⟩ := hwA.at_ (show (i + 1) * 2 + 1 < n * 2 by omega)
          subst hg2
          injection hg3' with e; injection e with e; subst e
          injection hg4' with e; injection e with e; subst e
          injection hg5' with e; injection e with e; subst e
          injection hgA with e; injection e with e e'; subst e; subst e'
          injection hgA' with e; injection e with e e'; subst e; subst e'
          rw [Hxa.out] at hp0
          rw [Hya.out] at hs0
          simp only [Nat.zero_add] at hp0 hp1 hs0 hs1'
          go_wp2_with fail
          go_region
          have hfl : (fldCells fs).length = fs.length * 2 := fldCells_len fs
          have q1 := hr6.set (j := i * 2) rfl (by omega) (.string ya)
          have q2 := q1.set (j := i * 2 + 1) rfl (by rw [List.length_set]; omega) (.string fs[i + 1].2)
          have q3 := q2.set (j := (i + 1) * 2) rfl (by rw [List.length_set, List.length_set]; omega) (.string xa)
          have q4 := q3.set (j := (i + 1) * 2 + 1) rfl (by rw [List.length_set, List.length_set, List.length_set]; omega) (.string fs[i].2)
          have hcells : ((((fldCells fs).set (i * 2) (.string ya)).set (i * 2 + 1) (.string fs[i + 1].2)).set ((i + 1) * 2) (.string xa)).set ((i + 1) * 2 + 1) (.string fs[i].2) = fldCells (swapS fs i fs[i] fs[i + 1]) := by
            unfold swapS
            rw [fldCells_set _ _ _ (by simpa using hi2), fldCells_set _ _ _ hi1, Hxa.out, Hya.out]
          rw [hcells] at q4
          simp only [Nat.zero_add] at q4
          obtain ⟨hsame, hsum, hleng, hbgg⟩ := Hsw.out
          have hb36 : Ext w3 w6 := hb4.trans hb46
          have hb37 := ((((hb36.setCell (p := ⟨g2, i * 2, none⟩) hlo (.string ya)).setCell (p := ⟨g2, i * 2 + 1, none⟩) hlo (.string fs[i + 1].2)).setCell (p := ⟨g2, (i + 1) * 2, none⟩) hlo (.string xa)).setCell (p := ⟨g2, (i + 1) * 2 + 1, none⟩) hlo (.string fs[i].2)).drew
          have hr7 := q4.drew
          have hbg6 : Bsz 6000 (swapS fs i fs[i] fs[i + 1]) := hbgg _ (small_bsz hs4)
          clear hcells q1 q2 q3 q4 hleng hbgg Hsw hfz0 hfz1 hfz2 hfz3 hp0 hp1 hs0 hs1' hr6 hwA hown4 hr4 hb36 hfl
          generalize hgs : swapS fs i fs[i] fs[i + 1] = gs at *
          clear hgs
          generalize ((((w6.setCell ⟨g2, i * 2, none⟩ (.string ya)).setCell ⟨g2, i * 2 + 1, none⟩ (.string fs[i + 1].2)).setCell ⟨g2, (i + 1) * 2, none⟩ (.string xa)).setCell ⟨g2, (i + 1) * 2 + 1, none⟩ (.string fs[i].2)).drew = w7 at *
          have hlg := hr7.lenF
          have hf7 := hf3.ext hb37
          have hl7 := hg3.ext hb37
          obtain ⟨b7, o7, hA7, hz0, hz1⟩ := hl7.atF hi1
          injection hA7 with hA7
          injection hA7 with e1 e2
          subst e1; subst e2
          rw [Hxa.out] at hz0
          have hbs1 := hbs.mono (show 4611686018427387904 ≤ 4611686018427387904 by omega)
          have hbs6 : Bsz 6000 fs := small_bsz hs4
          have hbs7 : Bsz 1073741824 fs := hbs6.mono (by omega)
          have hbg7 : Bsz 1073741824 gs := hbg6.mono (by omega)
          have hno : sameS fs (gs ++ [(lowS xa, (⟨#[]⟩ : ByteArray))]) = false := (sameS_len (by rw [List.length_append, hlg, Hl.out]; simp)).symm
          have hxs : xa.size ≤ 6000 := by have := (hbs6.at_ hi1).1; rw [Hxa.out] at this; exact this
          have he0 : (⟨#[]⟩ : ByteArray).size = 0 := rfl
          have hba1 : Bsz 1073741824 (gs ++ [(lowS xa, (⟨#[]⟩ : ByteArray))]) := addS_bsz (by omega) (by rw [he0]; omega) hbg7
          have hba2 : Bsz 6000 (gs ++ [(lowS ⟨#[97, 98]⟩, (⟨#[99]⟩ : ByteArray))]) := addS_bsz (by decide) (by decide) hbg6
          have hsa : sumF (gs ++ [(lowS ⟨#[97, 98]⟩, (⟨#[99]⟩ : ByteArray))]) = sumF fs + 3 := by rw [sumF_add, hsum]; rfl
          have Hsame := Lib.hid hsame; have Hsum := Lib.hid hsum; have Hno := Lib.hid hno; have Hsa := Lib.hid hsa; have Hlg := Lib.hid hlg
          clear hsame hsum hno hsa hlg he0 hq hq2 hwr hto
          go_wp2_with fail
          refine (field_Same _ _ _ _ _ _ _ _ _ hf7 hr7 (by omega) (by omega) hbs7 hbg7).mono ?_; rintro e w8 ⟨rfl, hb8⟩
          rw [Hsame.out]
          go_wp2_with fail
          refine (field_Size _ _ _ _ _ (hf7.ext hb8) (by omega) 6000 (by omega) hbs6).mono ?_; rintro e w9 ⟨rfl, hb9⟩
          go_wp2_with fail
          refine (field_Size _ _ _ _ _ ((hr7.ext hb8).ext hb9) (by omega) 6000 (by omega) hbg6).mono ?_; rintro e w10 ⟨rfl, hb10⟩
          rw [Hsum.out]
          have hb810 := (hb8.trans hb9).trans hb10
          have hz10 := hb810.cell hz0
          generalize hSF : sumF fs = SF at *
          have HSF := Lib.hid hSF; clear hSF
          go_wp2_with fail
          refine (field_Add _ _ _ _ _ _ _ (hr7.ext hb810) (by omega) (by omega)).mono ?_; rintro e w11 ⟨A11, c11, rfl, hr11, hc11, hb11, -⟩
          go_wp2_with fail
          refine (field_Same _ _ _ _ _ _ _ _ _ ((hf7.ext hb810).ext hb11) hr11 (by omega) (by omega) hbs7 hba1).mono ?_; rintro e w12 ⟨rfl, hb12⟩
          rw [Hno.out]
          go_wp2_with fail
          refine (field_Add _ _ _ _ _ _ _ (((hr7.ext hb810).ext hb11).ext hb12) (by omega) (by decide)).mono ?_; rintro e w13 ⟨A13, c13, rfl, hr13, hc13, hb13, -⟩
          go_wp2_with fail
          refine (field_Size _ _ _ _ _ hr13 (by omega) 6000 (by omega) hba2).mono ?_; rintro e w14 ⟨rfl, hb14⟩
          rw [Hsa.out]
          have hb814 := (((hb810.trans hb11).trans hb12).trans hb13).trans hb14
          go_wp2_with fail
          refine (field_Size _ _ _ _ _ (hf7.ext hb814) (by omega) 6000 (by omega) hbs6).mono ?_; rintro e w15 ⟨rfl, hb15⟩
          rw [HSF.out]
          go_wp2_with fail
          go_ret
          exact ⟨congrArg (fun x => Ending.returned (.bool x)) (beq_iff_eq.2 (by omega)), (((hbe2.trans hb3).trans hb37).trans hb814).trans hb15⟩
end Go.Proofs.Yteibmmhdlikckaa
