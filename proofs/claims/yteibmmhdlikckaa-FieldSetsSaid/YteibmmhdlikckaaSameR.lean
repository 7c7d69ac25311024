/- The walk of quaysideref02.Same. -/
import Derived.Test.YteibmmhdlikckaaSame
import Derived.Deep.DeepCutAuto
import Derived.Deep.LoopGhost
namespace Go.Proofs.Yteibmmhdlikckaa
open Go.RowKit

set_option maxHeartbeats 4000000 in
theorem ref_Same (A A2 : Option Addr) (n c n2 c2 : Nat) (fs gs : List Fd) (w : World) (hf : RdF w A n fs) (hg : RdF w A2 n2 gs)
    (hn : n ≤ 65536) (hn2 : n2 ≤ 65536) (hsz : Bsz 1073741824 fs) (hsz2 : Bsz 1073741824 gs) :
    Calls Try.prog 16 #[.slice A n c, .slice A2 n2 c2] w fun e w' => e = .returned (.bool (sameS fs gs)) ∧ Ext w w' := by
  have hl := hf.lenF
  have hl2 := hg.lenF
  by_cases hnn : n = n2
  · subst hnn
    go_enter Try.func16, Try.ntmps16
    have Hl := Lib.hid hl; clear hl
    have Hl2 := Lib.hid hl2; clear hl2
    go_wp2_with fail
    go_loopg [16] n (fun g i wr => ∃ k, k ≤ n ∧ g = n - k ∧ i = .int .i64 (k : Nat) ∧ sameTo fs gs k = true ∧ Ext w wr)
    case atStart => exact ⟨0, Nat.zero_le _, rfl, rfl, rfl, Ext.refl _⟩
    case round =>
      obtain ⟨k, hk, rfl, rfl, heq, hbr⟩ := hrel
      have Heq := Lib.hid heq; clear heq
      by_cases hlt : k < n
      · have hlt1 : k < fs.length := by have := Hl.out; omega
        have hF := hf.ext hbr
        have hG := hg.ext hbr
        obtain ⟨b, o, hA, hc0, hc1⟩ := hF.atF hlt1
        have hbd := (hsz.at_ hlt1).1
        subst hA
        generalize hnm : fs[k].1 = nm at *
        have Hnm := Lib.hid hnm; clear hnm hc1
        have hsA : ∀ f ∈ fs, f.1.size ≤ 4611686018427387904 := fun f hff => by have := (hsz f hff).1; omega
        have hsB : ∀ f ∈ gs, f.1.size ≤ 4611686018427387904 := fun f hff => by have := (hsz2 f hff).1; omega
        have HsA := Lib.hid hsA; have HsB := Lib.hid hsB; clear hsA hsB
        have hl65 : fs.length ≤ 65536 := by have := Hl.out; omega
        have hg65 : gs.length ≤ 65536 := by have := Hl2.out; omega
        have hk2 : (k : Int) < (n : Int) := by omega
        go_upto_region 6 with fail
        go_cut [6, 7] (fun x y wx => ∃ A3 n3 c3 A4 n4 c4, x = .slice A3 n3 c3 ∧ y = .slice A4 n4 c4 ∧ RdS wx A3 n3 (allS fs nm) ∧ RdS wx A4 n4 (allS gs nm) ∧ n3 ≤ 65536 ∧ n4 ≤ 65536 ∧ Ext wr wx)
        case first =>
          go_region_held3 (fun w' => w'.cell? ⟨b, o + k * 2, none⟩ = some (.string nm)) (first | exact hc0 | exact hce2 | exact hce3)
            (first
              | (go_at_call_of 15 (Value.slice (some ⟨b, o, none⟩) n c); refine (ref_All _ _ _ fs nm _ ?_ (by omega) (by omega) HsA.out).mono ?_; exact hF; rintro e w2 ⟨A3, n3, c3, rfl, hr3, hc3, hb2⟩; have hce2 := hb2.cell hc0)
              | (go_at_call_of 15 (Value.slice A2 n c2); refine (ref_All _ _ _ gs nm _ ?_ (by omega) (by omega) HsB.out).mono ?_; exact hG.drew.ext hb2; rintro e w3 ⟨A4, n4, c4, rfl, hr4, hc4, hb3⟩; have hce3 := hb3.cell hce2))
          all_goals
            go_wp2_with fail
            go_meet
            exact ⟨_, _, _, _, _, _, rfl, rfl, hr3.ext hb3, hr4, all_n hr3 hl65, all_n hr4 hg65, ((Ext.refl wr).drew.trans hb2).trans hb3⟩
        case rest =>
          obtain ⟨A3, n3, c3, A4, n4, c4, rfl, rfl, hr3, hr4, hn3, hn4, hbc⟩ := hcut
          have hbw : Ext w wc := hbr.trans hbc
          have Hst := Lib.hid (fun h => sameTo_step (b := gs) hlt1 Heq.out (by rw [Hnm.out]; exact h))
          have Hno := Lib.hid (fun h => sameS_no (a := fs) (b := gs) hlt1 (by rw [Hnm.out]; exact h))
          clear hF hG hbc hbd hc0 HsA HsB
          generalize allS fs nm = X at *
          generalize allS gs nm = Y at *
          have hl3 := hr3.lenS
          have hl4 := hr4.lenS
          by_cases hne : n3 = n4
          · subst hne
            have Hl3 := Lib.hid hl3; clear hl3
            have Hl4 := Lib.hid hl4; clear hl4
            go_wp2_with fail
            go_loopg [40] n3 (fun g i wi => ∃ j, j ≤ n3 ∧ g = n3 - j ∧ i = .int .i64 (j : Nat) ∧ X.take j = Y.take j ∧ Ext wc wi)
            case atStart => exact ⟨0, Nat.zero_le _, rfl, rfl, rfl, Ext.refl _⟩
            case round =>
              obtain ⟨j, hj, rfl, rfl, heq, hbi⟩ := hrel
              have Heq2 := Lib.hid heq; clear heq
              by_cases hjt : j < n3
              · have hjt1 : j < X.length := by have := Hl3.out; omega
                have hjt2 : j < Y.length := by have := Hl4.out; omega
                obtain ⟨b3, o3, rfl, hx0⟩ := (hr3.ext hbi).atS hjt1
                obtain ⟨b4, o4, rfl, hy0⟩ := (hr4.ext hbi).atS hjt2
                have hj2 : (j : Int) < (n3 : Int) := by omega
                by_cases he : X[j] = Y[j]
                · have Hs2 := Lib.hid (take_eq_step hjt1 hjt2 Heq2.out he)
                  have hd : (X[j].toList == Y[j].toList) = true := eqS_iff.2 he
                  clear he
                  generalize X[j] = x at *
                  generalize Y[j] = y at *
                  go_wp2_with fail
                  go_quiet (fail)
                  go_wp2
                  go_roundg (n3 - (j + 1))
                  case measure => omega
                  case rel => exact ⟨j + 1, by omega, rfl, by go_num, Hs2.out, hbi.drewN _⟩
                · have Hs2 := Lib.hid (ne_of_at hjt1 hjt2 he)
                  have hd : (X[j].toList == Y[j].toList) = false := by
                    rw [Bool.eq_false_iff]; exact fun h => he (eqS_iff.1 h)
                  clear he
                  generalize X[j] = x at *
                  generalize Y[j] = y at *
                  go_wp2_with fail
                  go_quiet (fail)
                  go_wp2
                  go_ret
                  exact ⟨congrArg (fun x => Ending.returned (.bool x)) (Hno.out Hs2.out), (hbw.trans hbi).drewN _⟩
              · obtain rfl : j = n3 := by omega
                have he : X = Y := by
                  have := Heq2.out
                  rwa [List.take_of_length_le (by have := Hl3.out; omega), List.take_of_length_le (by have := Hl4.out; omega)] at this
                have Hs2 := Lib.hid (Hst.out he)
                clear he
                go_wp2
                go_roundg (n - (k + 1))
                case measure => omega
                case rel => exact ⟨k + 1, by omega, rfl, by go_num, Hs2.out, hbw.trans hbi⟩
          · have Hs2 := Lib.hid (Hno.out (by intro h; subst h; omega))
            clear hl3 hl4
            go_wp2
            go_ret
            exact ⟨congrArg (fun x => Ending.returned (.bool x)) Hs2.out, hbw⟩
      · obtain rfl : k = n := by omega
        have he := Hl.out
        have he2 := Hl2.out
        have Hend := Lib.hid (sameS_end (a := fs) (b := gs) (by omega) (by rw [he]; exact Heq.out))
        clear he he2
        go_wp2
        go_ret
        exact ⟨congrArg (fun x => Ending.returned (.bool x)) Hend.out, hbr⟩
  · have Hno := Lib.hid (sameS_len (a := fs) (b := gs) (by omega))
    clear hl hl2
    go_enter Try.func16, Try.ntmps16
    go_wp2
    go_ret
    exact ⟨congrArg (fun x => Ending.returned (.bool x)) Hno.out, Ext.refl _⟩
end Go.Proofs.Yteibmmhdlikckaa
