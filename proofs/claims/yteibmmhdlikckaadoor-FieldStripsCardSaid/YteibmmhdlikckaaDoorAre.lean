
/- The walk of quaysidelaw02.Are; FieldSets and FieldKeeps: the walks. -/
import Derived.Test.YteibmmhdlikckaaDoorRem
set_option linter.unusedSimpArgs false
set_option linter.unusedVariables false
namespace Go.Proofs.YteibmmhdlikckaaDoor
open Go.RowKit

theorem neB {a b : ByteArray} (h : (a.toList == b.toList) = true) : (a.toList != b.toList) = false := by simp [bne, h]
theorem neB' {a b : ByteArray} (h : (a.toList == b.toList) = false) : (a.toList != b.toList) = true := by simp [bne, h]
theorem eqB_no {a b : ByteArray} (h : a ≠ b) : (a.toList == b.toList) = false := by
  rw [Bool.eq_false_iff]; exact fun h' => h (eqS_iff.1 h')

set_option maxHeartbeats 2000000 in
theorem law_Are (A A2 : Option Addr) (n c n2 c2 : Nat) (xs ys : List Fd) (w : World) (hx : RdF w A n xs) (hy : RdF w A2 n2 ys) (hn : n ≤ 1073741824) (hn2 : n2 ≤ 1073741824) :
    Calls Tryd.prog 18 #[.slice A n c, .slice A2 n2 c2] w fun e w' => e = .returned (.bool (decide (xs = ys))) ∧ Ext w w' := by
  have hl := hx.lenF
  have hl2 := hy.lenF
  by_cases hnn : n = n2
  · subst hnn
    go_enter Tryd.func18, Tryd.ntmps18
    have Hl := Lib.hid hl; clear hl
    have Hl2 := Lib.hid hl2; clear hl2
    go_wp2_with fail
    go_loopg [13] n (fun g i wr => ∃ k, k ≤ n ∧ g = n - k ∧ i = .int .i64 (k : Nat) ∧ xs.take k = ys.take k ∧ Ext w wr)
    case atStart => exact ⟨0, Nat.zero_le _, rfl, rfl, rfl, Ext.refl _⟩
    case round =>
      obtain ⟨k, hk, rfl, rfl, heq, hbr⟩ := hrel
      have Heq := Lib.hid heq; clear heq
      by_cases hlt : k < n
      · have hlt1 : k < xs.length := by have := Hl.out; omega
        have hlt2 : k < ys.length := by have := Hl2.out; omega
        obtain ⟨b, o, rfl, hc0, hc1⟩ := (hx.ext hbr).atF hlt1
        obtain ⟨b2, o2, rfl, hd0, hd1⟩ := (hy.ext hbr).atF hlt2
        have hk2 : (k : Int) < (n : Int) := by omega
        by_cases he1 : xs[k].1 = ys[k].1
        · have hq1 : (xs[k].1.toList == ys[k].1.toList) = true := eqS_iff.2 he1
          have hq2 := neB hq1
          by_cases he2 : xs[k].2 = ys[k].2
          · have Hst := Lib.hid (take_eq_step hlt1 hlt2 Heq.out (Prod.ext he1 he2))
            have hp1 : (xs[k].2.toList == ys[k].2.toList) = true := eqS_iff.2 he2
            have hp2 := neB hp1
            clear he1 he2
            generalize xs[k].1 = x1 at *
            generalize ys[k].1 = y1 at *
            generalize xs[k].2 = x2 at *
            generalize ys[k].2 = y2 at *
            go_wp2_with fail
            go_quiet (fail)
            go_wp2
            go_roundg (n - (k + 1))
            case measure => omega
            case rel => exact ⟨k + 1, by omega, rfl, by go_num, Hst.out, hbr.drewN _⟩
          · have Hst := Lib.hid (ne_of_at hlt1 hlt2 (fun h => he2 (congrArg Prod.snd h)))
            have hp1 := eqB_no he2
            have hp2 := neB' hp1
            clear he1 he2
            generalize xs[k].1 = x1 at *
            generalize ys[k].1 = y1 at *
            generalize xs[k].2 = x2 at *
            generalize ys[k].2 = y2 at *
            go_wp2_with fail
            go_quiet (fail)
            go_wp2
            go_ret
            exact ⟨congrArg (fun x => Ending.returned (.bool x)) (decide_eq_false Hst.out).symm, hbr.drewN _⟩
        · have Hst := Lib.hid (ne_of_at hlt1 hlt2 (fun h => he1 (congrArg Prod.fst h)))
          have hp1 := eqB_no he1
          have hp2 := neB' hp1
          clear he1
          generalize xs[k].1 = x1 at *
          generalize ys[k].1 = y1 at *
          generalize xs[k].2 = x2 at *
          generalize ys[k].2 = y2 at *
          go_wp2_with fail
          go_quiet (fail)
          go_wp2
          go_ret
          exact ⟨congrArg (fun x => Ending.returned (.bool x)) (decide_eq_false Hst.out).symm, hbr.drewN _⟩
      · obtain rfl : k = n := by omega
        have he : xs = ys := by
          have := Heq.out
          rwa [List.take_of_length_le (by have := Hl.out; omega), List.take_of_length_le (by have := Hl2.out; omega)] at this
        go_wp2
        go_ret
        exact ⟨congrArg (fun x => Ending.returned (.bool x)) (decide_eq_true he).symm, hbr⟩
  · have he : xs ≠ ys := by intro h; subst h; omega
    go_enter Tryd.func18, Tryd.ntmps18
    have Hl := Lib.hid hl; clear hl
    have Hl2 := Lib.hid hl2; clear hl2
    go_wp2
    go_ret
    exact ⟨congrArg (fun x => Ending.returned (.bool x)) (decide_eq_false he).symm, Ext.refl _⟩
end Go.Proofs.YteibmmhdlikckaaDoor
