/- The walks of quaysidelaw02.small, quaysidelaw02.Fields, quaysidebase.Texts. -/
import Derived.Test.YteibmmhdlikckaaRef1
import Derived.Deep.QuietTactic
import Derived.BigQuiet
namespace Go.Proofs.Yteibmmhdlikckaa
open Go.RowKit

theorem infoFld : (Try.prog.info? 41).map (fun i => (i.zero, i.size, i.bytes)) = some (some (.agg #[.string ⟨#[]⟩, .string ⟨#[]⟩]), 2, 32) := by kernel_rfl

theorem small_hi {fs : List Fd} (h : 70 < fs.length) : false = smallS fs := by unfold smallS; rw [decide_eq_false (by omega)]; simp
theorem small_lo {fs : List Fd} {b : Bool} (h : fs.length ≤ 70) (hb : decide ((sumF fs : Int) ≤ 6000) = b) : b = smallS fs := by
  unfold smallS; rw [decide_eq_true h, ← hb, Bool.true_and]; apply decide_eq_decide.2; omega

set_option maxHeartbeats 1000000 in
theorem law_small_lo (A : Option Addr) (n c : Nat) (fs : List Fd) (w : World) (hf : RdF w A n fs)
    (hn : n ≤ 70) (B : Nat) (hB : B ≤ 140737488355328) (hsz : Bsz B fs) :
    Calls Try.prog 9 #[.slice A n c] w fun e w' => e = .returned (.bool (smallS fs)) ∧ Ext w w' := by
  have hl := hf.lenF
  go_enter Try.func9, Try.ntmps9
  have Hl := Lib.hid hl; clear hl
  go_wp2_with fail
  go_loopw [3, 8] (fun v i wr => ∃ k, k ≤ n ∧ i = .int .i64 (k : Nat) ∧ v = .int .i64 (sumF (fs.take k) : Nat) ∧ Ext w wr) (fun _ i _ => n - (intOf i).toNat)
  case atStart => exact ⟨0, Nat.zero_le _, rfl, rfl, Ext.refl _⟩
  case round =>
    obtain ⟨k, hk, rfl, rfl, hbr⟩ := hrel
    have hsum2 : sumF (fs.take k) ≤ 70 * (2 * B) := sumF_lt (hsz.take k) (by simp; omega)
    by_cases hlt : k < n
    · have hlt' : k < fs.length := by have := Hl.out; omega
      obtain ⟨b, o, rfl, hc0, hc1⟩ := (hf.ext hbr).atF hlt'
      obtain ⟨hbd1, hbd2⟩ := hsz.at_ hlt'
      have Hst := Lib.hid (sumF_step hlt')
      generalize fs[k].1 = nm at *
      generalize fs[k].2 = vl at *
      generalize hX : sumF (fs.take k) = X at *
      clear hX
      go_wp2
      go_roundw
      case rel => exact ⟨k + 1, by omega, by go_num, by rw [Hst.out]; go_num, (hbr.alloc _)⟩
      case measure => simp [intOf]; omega
    · obtain rfl : k = n := by omega
      have he : fs.take k = fs := List.take_of_length_le (by have := Hl.out; omega)
      rw [he] at hsum2
      rw [he]
      have Hlo := Lib.hid (fun b => small_lo (fs := fs) (b := b) (by have := Hl.out; omega))
      generalize sumF fs = X at *
      clear he
      go_wp2
      · go_ret
        exact ⟨congrArg (fun x => Ending.returned (.bool x)) (Hlo.out _ rfl), hbr⟩

set_option maxHeartbeats 1000000 in
theorem law_small_hi (A : Option Addr) (n c : Nat) (fs : List Fd) (w : World) (hf : RdF w A n fs)
    (hn : 70 < n) (hn2 : n ≤ 9223372036854775807) :
    Calls Try.prog 9 #[.slice A n c] w fun e w' => e = .returned (.bool (smallS fs)) ∧ Ext w w' := by
  have hl := hf.lenF
  go_enter Try.func9, Try.ntmps9
  have Hl := Lib.hid hl; clear hl
  go_wp2_with fail
  go_loopw [3, 8] (fun v i wr => ∃ k z, k ≤ n ∧ i = .int .i64 (k : Nat) ∧ v = .int .i64 z ∧ Ext w wr) (fun _ i _ => n - (intOf i).toNat)
  case atStart => exact ⟨0, 0, Nat.zero_le _, rfl, rfl, Ext.refl _⟩
  case round =>
    obtain ⟨k, z, hk, rfl, rfl, hbr⟩ := hrel
    by_cases hlt : k < n
    · have hlt' : k < fs.length := by have := Hl.out; omega
      obtain ⟨b, o, rfl, hc0, hc1⟩ := (hf.ext hbr).atF hlt'
      generalize fs[k].1 = nm at *
      generalize fs[k].2 = vl at *
      go_wp2
      go_roundw
      case rel => exact ⟨k + 1, _, by omega, by go_num, rfl, (hbr.alloc _)⟩
      case measure => simp [intOf]; omega
    · obtain rfl : k = n := by omega
      have Hhi := Lib.hid (small_hi (fs := fs) (by have := Hl.out; omega))
      go_wp2
      go_ret
      exact ⟨congrArg (fun x => Ending.returned (.bool x)) Hhi.out, hbr⟩

theorem law_small (A : Option Addr) (n c : Nat) (fs : List Fd) (w : World) (hf : RdF w A n fs)
    (hn : n ≤ 9223372036854775807) (B : Nat) (hB : B ≤ 140737488355328) (hsz : Bsz B fs) :
    Calls Try.prog 9 #[.slice A n c] w fun e w' => e = .returned (.bool (smallS fs)) ∧ Ext w w' := by
  by_cases h : n ≤ 70
  · exact law_small_lo A n c fs w hf h B hB hsz
  · exact law_small_hi A n c fs w hf (by omega) hn

set_option maxHeartbeats 1000000 in
theorem law_Fields (A : Option Addr) (n c : Nat) (fs : List Fd) (w : World) (hf : RdF w A n fs) (hn : n ≤ 1073741824) :
    Calls Try.prog 11 #[.slice A n c] w fun e w' => ∃ A' c', e = .returned (.slice A' n c') ∧ RdF w' A' n fs ∧ n ≤ c' ∧ Ext w w' ∧ w'.ownsRow w.heap.size 41 2 (.slice A' n c') n (fldCells fs) := by
  have hl := hf.lenF
  go_enter Try.func11, Try.ntmps11
  have Hl := Lib.hid hl; clear hl
  go_wp2_with fail
  go_loopw [3, 8] (fun v i wr => ∃ k A' c', k ≤ n ∧ i = .int .i64 (k : Nat) ∧ v = .slice A' k c' ∧ wr.ownsRow w.heap.size 41 2 (.slice A' k c') k (fldCells (fs.take k)) ∧ k ≤ c' ∧ Ext w wr) (fun _ i _ => n - (intOf i).toNat)
  case atStart => exact ⟨0, none, 0, Nat.zero_le _, rfl, rfl, World.ownsRow_nil _ _ _ _, Nat.le_refl _, Ext.refl _⟩
  case round =>
    obtain ⟨k, A', c', hk, rfl, rfl, hown, hmc, hbr⟩ := hrel
    by_cases hlt : k < n
    · have hlt' : k < fs.length := by have := Hl.out; omega
      obtain ⟨b, o, rfl, hc0, hc1⟩ := (hf.ext hbr).atF hlt'
      have Hst := Lib.hid (take_step fs k hlt')
      generalize hx : fs[k] = x at *
      obtain ⟨nm, vl⟩ := x
      clear hx
      go_wp2_with (first
          | (at_builtin; refine wpList_app _ rfl (.tmp 12) (.tmp 18) 28 rfl w 41 _ 2 32 Try.underlying28 infoFld rfl (by decide) _ _ _ rfl ((hown.alloc _).alloc _) _ 1 1 (fldCells [(nm, vl)]) rfl (Rd.two _ _ _ _ (by simp)) (fldCells_one _) ((hbr.alloc _).alloc _) (by omega) (by decide) ?_; intro A2 c2 w3 hown3 hb3 hle3))
      go_roundw
      case rel => exact ⟨k + 1, A2, c2, by omega, by go_num, rfl, by rw [Hst.out, fldCells_app]; exact hown3, hle3, hb3⟩
      case measure => simp [intOf]; omega
    · obtain rfl : k = n := by omega
      have he : fs.take k = fs := List.take_of_length_le (by have := Hl.out; omega)
      rw [he] at hown
      go_wp2
      go_ret
      exact ⟨_, _, rfl, Rd.of_own hown, hmc, hbr, hown⟩

set_option maxHeartbeats 1000000 in
theorem base_Texts (A A2 : Option Addr) (n c n2 c2 : Nat) (xs ys : List ByteArray) (w : World) (hx : RdS w A n xs) (hy : RdS w A2 n2 ys) (hn : n ≤ 9223372036854775807) (hn2 : n2 ≤ 9223372036854775807) :
    Calls Try.prog 13 #[.slice A n c, .slice A2 n2 c2] w fun e w' => e = .returned (.bool (decide (xs = ys))) ∧ Ext w w' := by
  have hl := hx.lenS
  have hl2 := hy.lenS
  by_cases hnn : n = n2
  · subst hnn
    go_enter Try.func13, Try.ntmps13
    have Hl := Lib.hid hl; clear hl
    have Hl2 := Lib.hid hl2; clear hl2
    go_wp2_with fail
    go_loopw [13] (fun i wr => ∃ k, k ≤ n ∧ i = .int .i64 (k : Nat) ∧ xs.take k = ys.take k ∧ Ext w wr) (fun i _ => n - (intOf i).toNat)
    case atStart => exact ⟨0, Nat.zero_le _, rfl, rfl, Ext.refl _⟩
    case round =>
      obtain ⟨k, hk, rfl, heq, hbr⟩ := hrel
      have Heq := Lib.hid heq; clear heq
      by_cases hlt : k < n
      · have hlt1 : k < xs.length := by have := Hl.out; omega
        have hlt2 : k < ys.length := by have := Hl2.out; omega
        obtain ⟨b, o, rfl, hc0⟩ := (hx.ext hbr).atS hlt1
        obtain ⟨b2, o2, rfl, hc1⟩ := (hy.ext hbr).atS hlt2
        by_cases he : xs[k] = ys[k]
        · have Hst := Lib.hid (take_eq_step hlt1 hlt2 Heq.out he)
          have hd : (xs[k].toList == ys[k].toList) = true := eqS_iff.2 he
          clear he
          generalize xs[k] = x at *
          generalize ys[k] = y at *
          have hk2 : (k : Int) < (n : Int) := by omega
          go_wp2_with fail
          go_quiet (fail)
          go_wp2
          go_roundw
          case rel => exact ⟨k + 1, by omega, by go_num, Hst.out, hbr.drewN _⟩
          case measure => simp [intOf]; omega
        · have Hst := Lib.hid (ne_of_at hlt1 hlt2 he)
          have hd : (xs[k].toList == ys[k].toList) = false := by
            rw [Bool.eq_false_iff]; exact fun h => he (eqS_iff.1 h)
          clear he
          generalize xs[k] = x at *
          generalize ys[k] = y at *
          have hk2 : (k : Int) < (n : Int) := by omega
          go_wp2_with fail
          go_quiet (fail)
          go_wp2
          go_ret
          exact ⟨congrArg (fun x => Ending.returned (.bool x)) (decide_eq_false Hst.out).symm, hbr.drewN _⟩
      · obtain rfl : k = n := by omega
        have he : xs = ys := by
          have := Heq.out
          rwa [List.take_of_length_le (by have := Hl.out; omega), List.take_of_length_le (by have := Hl2.out; omega)] at this
        go_wp2
        go_ret
        exact ⟨congrArg (fun x => Ending.returned (.bool x)) (decide_eq_true he).symm, hbr⟩
  · have he : xs ≠ ys := by intro h; subst h; omega
    go_enter Try.func13, Try.ntmps13
    have Hl := Lib.hid hl; clear hl
    have Hl2 := Lib.hid hl2; clear hl2
    go_wp2
    go_ret
    exact ⟨congrArg (fun x => Ending.returned (.bool x)) (decide_eq_false he).symm, Ext.refl _⟩
end Go.Proofs.Yteibmmhdlikckaa
