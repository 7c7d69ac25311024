
/- The walk of quaysideref10.Evaluate. -/
import Derived.Test.YtghaopeijncgaaaDoorEv2
namespace Go.Proofs.YtghaopeijncgaaaDoor
open Go.RowKit

theorem getV_no : getV none = .tuple #[.string ⟨#[]⟩, .bool false] := rfl
theorem getV_some (v : ByteArray) : getV (some v) = .tuple #[.string v, .bool true] := rfl
theorem dateP_nil : dateP ⟨#[]⟩ = none := if_neg (by decide)
theorem dateF_getD (fs : List Fd) (name : ByteArray) : dateF fs name = dateP ((getO fs name).getD ⟨#[]⟩) := by
  unfold dateF
  cases getO fs name with
  | none => exact dateP_nil.symm
  | some v => rfl
theorem dateF_no {fs : List Fd} {name : ByteArray} (h : (getO fs name).isSome = false) : dateF fs name = none := by
  unfold dateF
  cases hg : getO fs name with
  | none => rfl
  | some v => rw [hg] at h; cases h
theorem ref_GetO (A : Option Addr) (n c : Nat) (fs : List Fd) (name : ByteArray) (w : World) (hf : RdF w A n fs)
    (hn : n ≤ 1073741824) (hs : name.size ≤ 4611686018427387904) (hsz : Bsz 1048576 fs) (hT : sumF fs + 2 * n ≤ 70368744177664) :
    Calls Tryd.prog 45 #[.slice A n c, .string name] w fun e w' => e = .returned (getV (getO fs name)) ∧ Ext w w' := by
  rw [← getV_get]
  exact ref_Get A n c fs name w hf hn hs 1048576 (by decide) hsz hT
theorem getD_size {fs : List Fd} {name : ByteArray} {n : Nat} (hn : fs.length = n) : ((getO fs name).getD ⟨#[]⟩).size ≤ sumF fs + 2 * n := by
  cases h : getO fs name with
  | none => exact Nat.zero_le _
  | some v => exact getO_size h hn

set_option maxHeartbeats 40000000 in
set_option maxRecDepth 100000 in
theorem ref_Evaluate (m : ByteArray) (A : Option Addr) (n c : Nat) (fs : List Fd) (st : St) (w : World) (hf : RdF w A n fs)
    (hn : n ≤ 1073741824) (hsz : Bsz 1048576 fs) (hT : sumF fs + 2 * n ≤ 70368744177664) (hT2 : sumF fs + 2 * n ≤ 1048576) :
    Calls Tryd.prog 27 #[.string m, .slice A n c, .agg (stArr st)] w fun e w' => e = .returned (.int .i64 (evF m fs st)) ∧ Ext w w' := by
  have G1 := Lib.hid (fun w' (h : Ext w w') => ref_GetO A n c fs imN w' (hf.ext h) hn (by decide) hsz hT)
  have g2 := fun w' (h : Ext w w') => ref_GetO A n c fs iusN w' (hf.ext h) hn (by decide) hsz hT
  have G3 := Lib.hid (fun w' (h : Ext w w') => ref_GetO A n c fs inmN w' (hf.ext h) hn (by decide) hsz hT)
  have g4 := fun w' (h : Ext w w') => ref_GetO A n c fs imsN w' (hf.ext h) hn (by decide) hsz hT
  have p2 := fun w' => rd_Parse ((getO fs iusN).getD ⟨#[]⟩) w' (Nat.le_trans (getD_size hf.lenF) (by omega))
  have p4 := fun w' => rd_Parse ((getO fs imsN).getD ⟨#[]⟩) w' (Nat.le_trans (getD_size hf.lenF) (by omega))
  have hb2 := @dateF_no fs iusN
  have hb4 := @dateF_no fs imsN
  rw [← dateF_getD] at p2 p4
  obtain ⟨R, hR⟩ : ∃ R, evF m fs st = R := ⟨_, rfl⟩
  rw [hR]
  unfold evF at hR
  have V1 := Lib.hid (fun v h => Nat.le_trans (@getO_size fs imN v h n hf.lenF) hT2)
  have V3 := Lib.hid (fun v h => Nat.le_trans (@getO_size fs inmN v h n hf.lenF) hT2)
  generalize dateF fs iusN = o2 at *
  generalize dateF fs imsN = o4 at *
  generalize getO fs imN = o1 at *
  generalize getO fs inmN = o3 at *
  unfold getV at g2 g4
  generalize (getO fs iusN).getD ⟨#[]⟩ = u2 at *
  generalize (getO fs imsN).getD ⟨#[]⟩ = u4 at *
  generalize (getO fs iusN).isSome = b2 at *
  generalize (getO fs imsN).isSome = b4 at *
  have G2 := Lib.hid g2
  have G4 := Lib.hid g4
  have P2 := Lib.hid p2
  have P4 := Lib.hid p4
  have HB2 := Lib.hid hb2
  have HB4 := Lib.hid hb4
  clear g2 g4 p2 p4 hb2 hb4
  have HI := Lib.hid (show isR m = ((m.toList == [71, 69, 84]) || (m.toList == [72, 69, 65, 68])) from rfl)
  generalize isR m = rd at *
  obtain ⟨ex, ht, hm, tw, tt, md⟩ := st
  have HMt := Lib.hid (fun v strong w (h : v.size ≤ 1048576) => ref_matches v ⟨ex, ht, hm, tw, tt, md⟩ strong w h)
  have hS : norm ⟨ex, ht, hm, tw, tt, md⟩ = ⟨ex, ht && ex, hm && ex, tw, tt, md⟩ := rfl
  rw [hS] at HMt hR
  clear hS
  have HK := Lib.hid (show (hm && ex) = (hm && ex) from rfl)
  have HKn : ∃ kn, (hm && ex) = kn := ⟨_, rfl⟩
  obtain ⟨kn, hkn⟩ := HKn
  rw [hkn] at HMt hR
  have HKn := Lib.hid hkn; clear hkn HK
  generalize (ht && ex) = hx at *
  have HR := Lib.hid hR; clear hR
  have HA1 := Lib.hid (show evA o1 o2 ⟨ex, hx, kn, tw, tt, md⟩ = true → 3 = R from fun h => by rw [← HR.out]; unfold evS; rw [if_pos h])
  have HA0 := Lib.hid (show evA o1 o2 ⟨ex, hx, kn, tw, tt, md⟩ = false → evB rd o3 o4 ⟨ex, hx, kn, tw, tt, md⟩ = R from fun h => by rw [← HR.out]; unfold evS; rw [if_neg (by rw [h]; decide)])
  clear HR
  have hE := (Ext.refl w).alloc (.cells (stArr ⟨ex, ht, hm, tw, tt, md⟩) 52)
  have hB := Blk.new w 52 (stArr ⟨ex, ht, hm, tw, tt, md⟩)
  go_enter Tryd.func27, Tryd.ntmps27
  have hi1 : (m.toList == [71, 69, 84]) = true ∨ (m.toList == [71, 69, 84]) = false := by cases (m.toList == [71, 69, 84]) <;> simp
  have hi2 : (m.toList == [72, 69, 65, 68]) = true ∨ (m.toList == [72, 69, 65, 68]) = false := by cases (m.toList == [72, 69, 65, 68]) <;> simp
  have Hhi := Lib.hid (And.intro hi1 hi2); clear hi1 hi2
  have HE := Lib.hid hE; have HBk := Lib.hid hB; clear hE hB
  go_upto_region 1 with fail
  go_cut [7] (fun x wx => x = .bool rd ∧ wx = w.alloc (.cells (stArr ⟨ex, ht, hm, tw, tt, md⟩) 52))
  case first =>
    obtain ⟨hi1, hi2⟩ := Hhi.out
    have HI2 := HI.out
    rcases hi1 with h1 | h1 <;> rcases hi2 with h2 | h2
    all_goals
      rw [h1, h2] at HI2
      subst HI2
      go_wp2_with fail
      go_meet
      exact ⟨rfl, rfl⟩
  case rest =>
    obtain ⟨rfl, hwc⟩ := hcut
    have hE := HE.out
    have hB := HBk.out
    rw [← hwc] at hE hB
    clear Hhi HI HE HBk hwc
    have HC := Lib.hid (show ∀ w', Ext wc w' → w'.cell? ⟨w.heap.size, 0, none⟩ = some (.bool ex) ∧ w'.cell? ⟨w.heap.size, 1, none⟩ = some (.bool ht) ∧ w'.cell? ⟨w.heap.size, 2, none⟩ = some (.bool hm) ∧ w'.cell? ⟨w.heap.size, 3, none⟩ = some (.bool tw) ∧ w'.cell? ⟨w.heap.size, 4, none⟩ = some (.string tt) ∧ w'.cell? ⟨w.heap.size, 5, none⟩ = some (.int .i64 md) from fun w' h => ⟨(hB.ext h).cell 0, (hB.ext h).cell 1, (hB.ext h).cell 2, (hB.ext h).cell 3, (hB.ext h).cell 4, (hB.ext h).cell 5⟩)
    clear hB
    go_upto_region 2 with fail
    go_cut [8] (fun x wx => x = .bool kn ∧ wx = wc)
    case first =>
      obtain ⟨c0, c1, c2, c3, c4, c5⟩ := HC.out _ (Ext.refl _)
      have HK2 := HKn.out
      cases hm <;> cases ex
      all_goals
        subst HK2
        go_wp2_with fail
        go_meet
        exact ⟨rfl, rfl⟩
    case rest =>
      obtain ⟨rfl, rfl⟩ := hcut
      clear HKn
      go_wp2_with fail
      refine (G1.out _ hE).mono ?_; rintro e w1 ⟨rfl, hb1⟩
      simp only [getV]
      go_wp2_with fail
      refine (G2.out _ (hE.trans hb1)).mono ?_; rintro e w2 ⟨rfl, hb2⟩
      go_wp2_with fail
      refine (P2.out _).mono ?_; rintro e w3 ⟨⟨n2, rfl, hn2⟩, hb3⟩
      have hEa := (hb1.trans hb2).trans hb3
      have Hn2 := Lib.hid hn2; clear hn2
      obtain ⟨d0, d1, d2, d3, d4, d5⟩ := HC.out _ hEa
      cases o1 with
      | none =>
        simp only [Option.getD_none, Option.isSome_none]
        cases b2
        · obtain rfl := HB2.out rfl
          have HV := Lib.hid (HA0.out rfl)
          go_wp2_with fail
          refine (G3.out _ (hE.trans hEa)).mono ?_; rintro e w4 ⟨rfl, hb4⟩
          simp only [getV]
          go_wp2_with fail
          refine (G4.out _ ((hE.trans hEa).trans hb4)).mono ?_; rintro e w5 ⟨rfl, hb5⟩
          go_wp2_with fail
          refine (P4.out _).mono ?_; rintro e w6 ⟨⟨n4, rfl, hn4⟩, hb6⟩
          have hEb := ((hEa.trans hb4).trans hb5).trans hb6
          have Hn4 := Lib.hid hn4; clear hn4
          obtain ⟨c0, c1, c2, c3, c4, c5⟩ := HC.out _ hEb
          cases o3 with
          | none =>
            simp only [Option.getD_none, Option.isSome_none]
            cases b4
            · obtain rfl := HB4.out rfl
              have HL := Lib.hid (show 1 = R from HV.out)
              go_wp2_with fail
              go_ret
              exact ⟨ret_i HL.out, hE.trans hEb⟩
            · cases rd
              · have HL := Lib.hid (show 1 = R by rw [← HV.out]; cases o4 <;> rfl)
                go_wp2_with fail
                go_ret
                exact ⟨ret_i HL.out, hE.trans hEb⟩
              · cases o4 with
                | none =>
                  simp only [Option.isSome_none]
                  have HL := Lib.hid (show 1 = R from HV.out)
                  go_wp2_with fail
                  go_ret
                  exact ⟨ret_i HL.out, hE.trans hEb⟩
                | some j =>
                  obtain rfl := Hn4.out j rfl
                  simp only [Option.isSome_some]
                  cases kn
                  · have HL := Lib.hid (show 1 = R from HV.out)
                    go_wp2_with fail
                    go_ret
                    exact ⟨ret_i HL.out, hE.trans hEb⟩
                  · have HL := Lib.hid (show (if decide (md ≤ n4) then 2 else 1) = R from HV.out)
                    by_cases hj : md ≤ n4
                    · rw [decide_eq_true hj] at HL
                      go_wp2_with fail
                      go_ret
                      exact ⟨ret_i HL.out, hE.trans hEb⟩
                    · rw [decide_eq_false hj] at HL
                      go_wp2_with fail
                      go_ret
                      exact ⟨ret_i HL.out, hE.trans hEb⟩
          | some u =>
            simp only [Option.getD_some, Option.isSome_some]
            have HL := Lib.hid (show (if matS u ⟨ex, hx, kn, tw, tt, md⟩ false then (if rd then 2 else 3) else 1) = R from HV.out)
            have hMa := fun w => HMt.out u false w (V3.out _ rfl)
            generalize matS u ⟨ex, hx, kn, tw, tt, md⟩ false = q at *
            have HM := Lib.hid hMa; clear hMa
            go_wp2_with fail
            refine (HM.out _).mono ?_; rintro e w7 ⟨rfl, hb7⟩
            have hEc := hEb.trans hb7
            cases q
            · skip
              go_wp2_with fail
              go_ret
              exact ⟨ret_i HL.out, hE.trans hEc⟩
            · cases rd
              · skip
                go_wp2_with fail
                go_ret
                exact ⟨ret_i HL.out, hE.trans hEc⟩
              · skip
                go_wp2_with fail
                go_ret
                exact ⟨ret_i HL.out, hE.trans hEc⟩
        · cases o2 with
          | none =>
            simp only [Option.isSome_none]
            have HV := Lib.hid (HA0.out rfl)
            go_wp2_with fail
            refine (G3.out _ (hE.trans hEa)).mono ?_; rintro e w4 ⟨rfl, hb4⟩
            simp only [getV]
            go_wp2_with fail
            refine (G4.out _ ((hE.trans hEa).trans hb4)).mono ?_; rintro e w5 ⟨rfl, hb5⟩
            go_wp2_with fail
            refine (P4.out _).mono ?_; rintro e w6 ⟨⟨n4, rfl, hn4⟩, hb6⟩
            have hEb := ((hEa.trans hb4).trans hb5).trans hb6
            have Hn4 := Lib.hid hn4; clear hn4
            obtain ⟨c0, c1, c2, c3, c4, c5⟩ := HC.out _ hEb
            cases o3 with
            | none =>
              simp only [Option.getD_none, Option.isSome_none]
              cases b4
              · obtain rfl := HB4.out rfl
                have HL := Lib.hid (show 1 = R from HV.out)
                go_wp2_with fail
                go_ret
                exact ⟨ret_i HL.out, hE.trans hEb⟩
              · cases rd
                · have HL := Lib.hid (show 1 = R by rw [← HV.out]; cases o4 <;> rfl)
                  go_wp2_with fail
                  go_ret
                  exact ⟨ret_i HL.out, hE.trans hEb⟩
                · cases o4 with
                  | none =>
                    simp only [Option.isSome_none]
                    have HL := Lib.hid (show 1 = R from HV.out)
                    go_wp2_with fail
                    go_ret
                    exact ⟨ret_i HL.out, hE.trans hEb⟩
                  | some j =>
                    obtain rfl := Hn4.out j rfl
                    simp only [Option.isSome_some]
                    cases kn
                    · have HL := Lib.hid (show 1 = R from HV.out)
                      go_wp2_with fail
                      go_ret
                      exact ⟨ret_i HL.out, hE.trans hEb⟩
                    · have HL := Lib.hid (show (if decide (md ≤ n4) then 2 else 1) = R from HV.out)
                      by_cases hj : md ≤ n4
                      · rw [decide_eq_true hj] at HL
                        go_wp2_with fail
                        go_ret
                        exact ⟨ret_i HL.out, hE.trans hEb⟩
                      · rw [decide_eq_false hj] at HL
                        go_wp2_with fail
                        go_ret
                        exact ⟨ret_i HL.out, hE.trans hEb⟩
            | some u =>
              simp only [Option.getD_some, Option.isSome_some]
              have HL := Lib.hid (show (if matS u ⟨ex, hx, kn, tw, tt, md⟩ false then (if rd then 2 else 3) else 1) = R from HV.out)
              have hMa := fun w => HMt.out u false w (V3.out _ rfl)
              generalize matS u ⟨ex, hx, kn, tw, tt, md⟩ false = q at *
              have HM := Lib.hid hMa; clear hMa
              go_wp2_with fail
              refine (HM.out _).mono ?_; rintro e w7 ⟨rfl, hb7⟩
              have hEc := hEb.trans hb7
              cases q
              · skip
                go_wp2_with fail
                go_ret
                exact ⟨ret_i HL.out, hE.trans hEc⟩
              · cases rd
                · skip
                  go_wp2_with fail
                  go_ret
                  exact ⟨ret_i HL.out, hE.trans hEc⟩
                · skip
                  go_wp2_with fail
                  go_ret
                  exact ⟨ret_i HL.out, hE.trans hEc⟩
          | some k =>
            obtain rfl := Hn2.out k rfl
            simp only [Option.isSome_some]
            cases kn
            · skip
              have HV := Lib.hid (HA0.out rfl)
              go_wp2_with fail
              refine (G3.out _ (hE.trans hEa)).mono ?_; rintro e w4 ⟨rfl, hb4⟩
              simp only [getV]
              go_wp2_with fail
              refine (G4.out _ ((hE.trans hEa).trans hb4)).mono ?_; rintro e w5 ⟨rfl, hb5⟩
              go_wp2_with fail
              refine (P4.out _).mono ?_; rintro e w6 ⟨⟨n4, rfl, hn4⟩, hb6⟩
              have hEb := ((hEa.trans hb4).trans hb5).trans hb6
              have Hn4 := Lib.hid hn4; clear hn4
              obtain ⟨c0, c1, c2, c3, c4, c5⟩ := HC.out _ hEb
              cases o3 with
              | none =>
                simp only [Option.getD_none, Option.isSome_none]
                cases b4
                · obtain rfl := HB4.out rfl
                  have HL := Lib.hid (show 1 = R from HV.out)
                  go_wp2_with fail
                  go_ret
                  exact ⟨ret_i HL.out, hE.trans hEb⟩
                · cases rd
                  · have HL := Lib.hid (show 1 = R by rw [← HV.out]; cases o4 <;> rfl)
                    go_wp2_with fail
                    go_ret
                    exact ⟨ret_i HL.out, hE.trans hEb⟩
                  · cases o4 with
                    | none =>
                      simp only [Option.isSome_none]
                      have HL := Lib.hid (show 1 = R from HV.out)
                      go_wp2_with fail
                      go_ret
                      exact ⟨ret_i HL.out, hE.trans hEb⟩
                    | some j =>
                      obtain rfl := Hn4.out j rfl
                      simp only [Option.isSome_some]
                      have HL := Lib.hid (show 1 = R from HV.out)
                      go_wp2_with fail
                      go_ret
                      exact ⟨ret_i HL.out, hE.trans hEb⟩
              | some u =>
                simp only [Option.getD_some, Option.isSome_some]
                have HL := Lib.hid (show (if matS u ⟨ex, hx, false, tw, tt, md⟩ false then (if rd then 2 else 3) else 1) = R from HV.out)
                have hMa := fun w => HMt.out u false w (V3.out _ rfl)
                generalize matS u ⟨ex, hx, false, tw, tt, md⟩ false = q at *
                have HM := Lib.hid hMa; clear hMa
                go_wp2_with fail
                refine (HM.out _).mono ?_; rintro e w7 ⟨rfl, hb7⟩
                have hEc := hEb.trans hb7
                cases q
                · skip
                  go_wp2_with fail
                  go_ret
                  exact ⟨ret_i HL.out, hE.trans hEc⟩
                · cases rd
                  · skip
                    go_wp2_with fail
                    go_ret
                    exact ⟨ret_i HL.out, hE.trans hEc⟩
                  · skip
                    go_wp2_with fail
                    go_ret
                    exact ⟨ret_i HL.out, hE.trans hEc⟩
            · by_cases hk : n2 < md
              · have HL := Lib.hid (HA1.out (decide_eq_true hk))
                go_wp2_with fail
                go_ret
                exact ⟨ret_i HL.out, hE.trans hEa⟩
              · have hk2 := decide_eq_false hk
                have HV := Lib.hid (HA0.out hk2)
                go_wp2_with fail
                refine (G3.out _ (hE.trans hEa)).mono ?_; rintro e w4 ⟨rfl, hb4⟩
                simp only [getV]
                go_wp2_with fail
                refine (G4.out _ ((hE.trans hEa).trans hb4)).mono ?_; rintro e w5 ⟨rfl, hb5⟩
                go_wp2_with fail
                refine (P4.out _).mono ?_; rintro e w6 ⟨⟨n4, rfl, hn4⟩, hb6⟩
                have hEb := ((hEa.trans hb4).trans hb5).trans hb6
                have Hn4 := Lib.hid hn4; clear hn4
                obtain ⟨c0, c1, c2, c3, c4, c5⟩ := HC.out _ hEb
                cases o3 with
                | none =>
                  simp only [Option.getD_none, Option.isSome_none]
                  cases b4
                  · obtain rfl := HB4.out rfl
                    have HL := Lib.hid (show 1 = R from HV.out)
                    go_wp2_with fail
                    go_ret
                    exact ⟨ret_i HL.out, hE.trans hEb⟩
                  · cases rd
                    · have HL := Lib.hid (show 1 = R by rw [← HV.out]; cases o4 <;> rfl)
                      go_wp2_with fail
                      go_ret
                      exact ⟨ret_i HL.out, hE.trans hEb⟩
                    · cases o4 with
                      | none =>
                        simp only [Option.isSome_none]
                        have HL := Lib.hid (show 1 = R from HV.out)
                        go_wp2_with fail
                        go_ret
                        exact ⟨ret_i HL.out, hE.trans hEb⟩
                      | some j =>
                        obtain rfl := Hn4.out j rfl
                        simp only [Option.isSome_some]
                        have HL := Lib.hid (show (if decide (md ≤ n4) then 2 else 1) = R from HV.out)
                        by_cases hj : md ≤ n4
                        · rw [decide_eq_true hj] at HL
                          go_wp2_with fail
                          go_ret
                          exact ⟨ret_i HL.out, hE.trans hEb⟩
                        · rw [decide_eq_false hj] at HL
                          go_wp2_with fail
                          go_ret
                          exact ⟨ret_i HL.out, hE.trans hEb⟩
                | some u =>
                  simp only [Option.getD_some, Option.isSome_some]
                  have HL := Lib.hid (show (if matS u ⟨ex, hx, true, tw, tt, md⟩ false then (if rd then 2 else 3) else 1) = R from HV.out)
                  have hMa := fun w => HMt.out u false w (V3.out _ rfl)
                  generalize matS u ⟨ex, hx, true, tw, tt, md⟩ false = q at *
                  have HM := Lib.hid hMa; clear hMa
                  go_wp2_with fail
                  refine (HM.out _).mono ?_; rintro e w7 ⟨rfl, hb7⟩
                  have hEc := hEb.trans hb7
                  cases q
                  · skip
                    go_wp2_with fail
                    go_ret
                    exact ⟨ret_i HL.out, hE.trans hEc⟩
                  · cases rd
                    · skip
                      go_wp2_with fail
                      go_ret
                      exact ⟨ret_i HL.out, hE.trans hEc⟩
                    · skip
                      go_wp2_with fail
                      go_ret
                      exact ⟨ret_i HL.out, hE.trans hEc⟩
      | some v =>
        simp only [Option.getD_some, Option.isSome_some]
        have hMa := fun w => HMt.out v true w (V1.out _ rfl)
        have HQ := Lib.hid (show evA (some v) o2 ⟨ex, hx, kn, tw, tt, md⟩ = !matS v ⟨ex, hx, kn, tw, tt, md⟩ true from rfl)
        generalize matS v ⟨ex, hx, kn, tw, tt, md⟩ true = q0 at *
        have HM := Lib.hid hMa; clear hMa
        go_wp2_with fail
        refine (HM.out _).mono ?_; rintro e w3' ⟨rfl, hb3'⟩
        have hEa := hEa.trans hb3'
        cases q0
        · have HL := Lib.hid (HA1.out HQ.out)
          go_wp2_with fail
          go_ret
          exact ⟨ret_i HL.out, hE.trans hEa⟩
        · skip
          have HV := Lib.hid (HA0.out HQ.out)
          go_wp2_with fail
          refine (G3.out _ (hE.trans hEa)).mono ?_; rintro e w4 ⟨rfl, hb4⟩
          simp only [getV]
          go_wp2_with fail
          refine (G4.out _ ((hE.trans hEa).trans hb4)).mono ?_; rintro e w5 ⟨rfl, hb5⟩
          go_wp2_with fail
          refine (P4.out _).mono ?_; rintro e w6 ⟨⟨n4, rfl, hn4⟩, hb6⟩
          have hEb := ((hEa.trans hb4).trans hb5).trans hb6
          have Hn4 := Lib.hid hn4; clear hn4
          obtain ⟨c0, c1, c2, c3, c4, c5⟩ := HC.out _ hEb
          cases o3 with
          | none =>
            simp only [Option.getD_none, Option.isSome_none]
            cases b4
            · obtain rfl := HB4.out rfl
              have HL := Lib.hid (show 1 = R from HV.out)
              go_wp2_with fail
              go_ret
              exact ⟨ret_i HL.out, hE.trans hEb⟩
            · cases rd
              · have HL := Lib.hid (show 1 = R by rw [← HV.out]; cases o4 <;> rfl)
                go_wp2_with fail
                go_ret
                exact ⟨ret_i HL.out, hE.trans hEb⟩
              · cases o4 with
                | none =>
                  simp only [Option.isSome_none]
                  have HL := Lib.hid (show 1 = R from HV.out)
                  go_wp2_with fail
                  go_ret
                  exact ⟨ret_i HL.out, hE.trans hEb⟩
                | some j =>
                  obtain rfl := Hn4.out j rfl
                  simp only [Option.isSome_some]
                  cases kn
                  · have HL := Lib.hid (show 1 = R from HV.out)
                    go_wp2_with fail
                    go_ret
                    exact ⟨ret_i HL.out, hE.trans hEb⟩
                  · have HL := Lib.hid (show (if decide (md ≤ n4) then 2 else 1) = R from HV.out)
                    by_cases hj : md ≤ n4
                    · rw [decide_eq_true hj] at HL
                      go_wp2_with fail
                      go_ret
                      exact ⟨ret_i HL.out, hE.trans hEb⟩
                    · rw [decide_eq_false hj] at HL
                      go_wp2_with fail
                      go_ret
                      exact ⟨ret_i HL.out, hE.trans hEb⟩
          | some u =>
            simp only [Option.getD_some, Option.isSome_some]
            have HL := Lib.hid (show (if matS u ⟨ex, hx, kn, tw, tt, md⟩ false then (if rd then 2 else 3) else 1) = R from HV.out)
            have hMa := fun w => HMt.out u false w (V3.out _ rfl)
            generalize matS u ⟨ex, hx, kn, tw, tt, md⟩ false = q at *
            have HM := Lib.hid hMa; clear hMa
            go_wp2_with fail
            refine (HM.out _).mono ?_; rintro e w7 ⟨rfl, hb7⟩
            have hEc := hEb.trans hb7
            cases q
            · skip
              go_wp2_with fail
              go_ret
              exact ⟨ret_i HL.out, hE.trans hEc⟩
            · cases rd
              · skip
                go_wp2_with fail
                go_ret
                exact ⟨ret_i HL.out, hE.trans hEc⟩
              · skip
                go_wp2_with fail
                go_ret
                exact ⟨ret_i HL.out, hE.trans hEc⟩
end Go.Proofs.YtghaopeijncgaaaDoor
