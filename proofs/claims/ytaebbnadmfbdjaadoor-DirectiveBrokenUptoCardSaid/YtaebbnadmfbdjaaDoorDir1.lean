
/- The walks of directive.lower, directive.least, directive.number, quaysideref11.least. -/
import Derived.Test.YtaebbnadmfbdjaaDoorList
set_option linter.unusedSimpArgs false
set_option linter.unusedVariables false
namespace Go.Proofs.YtaebbnadmfbdjaaDoor
open Go.RowKit

set_option maxHeartbeats 1000000 in
theorem dir_lower (s : ByteArray) (w : World) (hs : s.size ≤ 9223372036854775807) :
    Calls Tryd.prog 42 #[.string s] w fun e w' => e = .returned (.string (lowS s)) ∧ Ext w w' := by
  go_enter Tryd.func42, Tryd.ntmps42
  have hb := fun w => run_bytes_of_string (P := Tryd.prog) w 9 59 5 s Tryd.underlying9 Tryd.underlying59 Tryd.underlying5
  go_wp2_with fail
  clear hb
  generalize hcap : grownCap w s.size 0 5 = cap
  have hcs : s.size ≤ cap := by rw [← hcap]; exact grownCap_ge _ _ _ _
  clear hcap
  go_loopw [10] (fun i wr => ∃ k : Nat, k ≤ s.size ∧ i = .int .i64 k ∧ Below w.heap.size w wr ∧ (∀ j, j < s.size → wr.cell? ⟨w.heap.size, j, none⟩ = some (.int .u8 (lowAt s k j))) ∧ (∀ j, j < s.size → wr.frozen? ⟨w.heap.size, j, none⟩ = false)) (fun i _ => s.size - (intOf i).toNat)
  case atStart =>
    refine ⟨0, Nat.zero_le _, rfl, ((Below.refl _ _).alloc (Nat.le_refl _) _).drew, fun j hj => ?_, fun j hj => ?_⟩
    · show (w.alloc _).cell? _ = _
      rw [World.cell?_alloc_mark, bytesRow_at s cap j hj, lowAt_zero s j hj]
      rfl
    · show (w.alloc _).frozen? _ = _
      rw [World.frozen?_alloc_mark]
      have : j < (bytesRow s cap).size := by simp [bytesRow]; omega
      simp; omega
  case round =>
    obtain ⟨k, hk, rfl, hbel, hcell, hfr⟩ := hrel
    by_cases hlt : k < s.size
    · have hc := hcell k hlt
      have hf := hfr k hlt
      have Hcell := Lib.hid hcell; clear hcell
      have Hfr := Lib.hid hfr; clear hfr
      rw [lowAt_self] at hc
      go_wp2
      · have h1 : (65 : Int) ≤ (s.data[k].toNat : Int) := by assumption
        have h2 : (s.data[k].toNat : Int) ≤ 90 := by assumption
        have hy := lowC_yes s.data[k] h1 h2
        have ha := low_step_yes (lt := hlt) Hcell.out Hfr.out hy
        go_roundw
        case rel => exact ⟨k + 1, by omega, by go_num, hbel.setCell (Nat.le_refl _) _, ha.1, ha.2⟩
        case measure => simp [intOf]; omega
      all_goals
        have hn : lowC s.data[k] = s.data[k] := lowC_no _ (by omega)
        have ha := low_step_no hlt Hcell.out hn
        go_roundw
        case rel => exact ⟨k + 1, by omega, by go_num, hbel, ha, Hfr.out⟩
        case measure => simp [intOf]; omega
    · have hk' : k = s.size := by omega
      subst hk'
      have hback := run_convert_bytes_back (P := Tryd.prog) wr 59 9 5 ⟨w.heap.size, 0, none⟩ cap (lowL s.data.toList) Tryd.underlying59 Tryd.underlying5 Tryd.underlying9
        (fun j hj => by rw [add_plain, Nat.zero_add, hcell j (by simpa [lowL] using hj), lowAt_end s s.size j (by simpa [lowL] using hj) hj])
      rw [show (lowL s.data.toList).length = s.size by simp [lowL]] at hback
      clear hcell hfr
      go_wp2
      go_ret
      exact ⟨rfl, hbel⟩

/-- The greatest time. -/
def most : Int := 2147483647
def digB (c : UInt8) : Bool := !(decide ((c.toNat : Int) < 48) || decide (57 < (c.toNat : Int)))
/-- The number of some digits, at most the greatest. -/
def numV (l : List UInt8) : Int := l.foldl (fun n c => min 2147483647 (10 * n + ((c.toNat : Int) - 48))) 0
def okN (s : ByteArray) : Bool := s.data.toList.all digB && decide (0 < s.size)
/-- A text read as a number: 0 where it is none. -/
def numR (s : ByteArray) : Int := if s.data.toList.all digB then numV s.data.toList else 0
theorem numV_step {s : ByteArray} {k : Nat} (h : k < s.size) : numV (s.data.toList.take (k + 1)) = min 2147483647 (10 * numV (s.data.toList.take k) + ((s[k].toNat : Int) - 48)) := by
  rw [take_step s.data.toList k (by simpa using h)]
  unfold numV
  rw [List.foldl_append]; rfl
theorem digB_no {c : UInt8} (h : (c.toNat : Int) < 48 ∨ 57 < (c.toNat : Int)) : digB c = false := by
  unfold digB; rcases h with h | h
  · rw [decide_eq_true h]; rfl
  · rw [decide_eq_true h, Bool.or_true]; rfl
theorem digB_yes {c : UInt8} (h1 : ¬ (c.toNat : Int) < 48) (h2 : ¬ 57 < (c.toNat : Int)) : digB c = true := by
  unfold digB; rw [decide_eq_false h1, decide_eq_false h2]; rfl
theorem dig_step {s : ByteArray} {k : Nat} (h : k < s.size) (h1 : (s.data.toList.take k).all digB = true) (h2 : digB s[k] = true) : (s.data.toList.take (k + 1)).all digB = true := by
  rw [take_step _ k (by simpa using h), List.all_append, h1]
  have h2 : digB s.data[k] = true := h2
  simpa using h2
theorem dig_no {s : ByteArray} {k : Nat} (h : k < s.size) (h2 : digB s[k] = false) : numR s = 0 ∧ okN s = false := by
  have h3 : s.data.toList.all digB = false := by
    rw [List.all_eq_false]
    exact ⟨s.data[k], by simp, by have h2 : digB s.data[k] = false := h2; simp [h2]⟩
  exact ⟨by unfold numR; rw [h3]; rfl, by unfold okN; rw [h3]; rfl⟩
theorem dig_end {s : ByteArray} (h1 : (s.data.toList.take s.size).all digB = true) : numR s = numV (s.data.toList.take s.size) ∧ okN s = !s.toList.isEmpty := by
  have h2 := h1
  rw [List.take_of_length_le (by simp)] at h1
  refine ⟨by unfold numR; rw [if_pos h1, List.take_of_length_le (by simp)], ?_⟩
  unfold okN
  rw [h1, Bool.true_and, ByteArray.toList_eq]
  obtain ⟨⟨l⟩⟩ := s
  cases l with
  | nil => rfl
  | cons c r => simp [ByteArray.size]

set_option maxHeartbeats 1000000 in
theorem dir_least (a b : Int) (w : World) :
    Calls Tryd.prog 33 #[.int .i64 a, .int .i64 b] w fun e w' => e = .returned (.int .i64 (if a < 0 then b else if b < 0 then a else min a b)) ∧ Ext w w' := by
  go_enter Tryd.func33, Tryd.ntmps33
  have H : Ext w w := Ext.refl w
  generalize hr : (if a < 0 then b else if b < 0 then a else min a b) = r
  have Hr := Lib.hid hr; clear hr
  by_cases ha : a < 0
  · go_wp2_with fail
    go_ret
    exact ⟨congrArg (fun x => Ending.returned (.int .i64 x)) (by rw [← Hr.out, if_pos (by omega)]), H⟩
  · by_cases hb : b < 0
    · go_wp2_with fail
      go_ret
      exact ⟨congrArg (fun x => Ending.returned (.int .i64 x)) (by rw [← Hr.out, if_neg (by omega), if_pos (by omega)]), H⟩
    · go_wp2_with fail
      go_ret
      exact ⟨congrArg (fun x => Ending.returned (.int .i64 x)) (by rw [← Hr.out, if_neg (by omega), if_neg (by omega)]), H⟩

set_option maxHeartbeats 1000000 in
theorem dir_number (s : ByteArray) (w : World) (hs : s.size ≤ 4611686018427387904) :
    Calls Tryd.prog 58 #[.string s] w fun e w' => e = .returned (.tuple #[.int .i64 (numR s), .bool (okN s)]) ∧ Ext w w' := by
  go_enter Tryd.func58, Tryd.ntmps58
  go_wp2_with fail
  go_loopw [4, 8] (fun v i wr => ∃ k z, k ≤ s.size ∧ i = .int .i64 (k : Nat) ∧ v = .int .i64 z ∧ z = numV (s.data.toList.take k) ∧ 0 ≤ z ∧ z ≤ 2147483647 ∧ (s.data.toList.take k).all digB = true ∧ Ext w wr) (fun _ i _ => s.size - (intOf i).toNat)
  case atStart => exact ⟨0, 0, Nat.zero_le _, rfl, rfl, rfl, by omega, by omega, rfl, Ext.refl _⟩
  case round =>
    obtain ⟨k, z, hk, rfl, rfl, hz, hz0, hz1, hall, hbr⟩ := hrel
    have Hz := Lib.hid hz; clear hz
    by_cases hlt : k < s.size
    · have Hst := Lib.hid (numV_step hlt)
      have Hd := Lib.hid (dig_step hlt hall); clear hall
      have Hno := Lib.hid (@dig_no s k hlt)
      by_cases hd : (s[k].toNat : Int) < 48 ∨ 57 < (s[k].toNat : Int)
      · have Hn := Lib.hid (Hno.out (digB_no hd))
        go_wp2_with fail
        all_goals (go_ret2; exact ⟨by rw [Hn.out.1, Hn.out.2]; rfl, hbr⟩)
      · have h48 : ¬ (s[k].toNat : Int) < 48 := by omega
        have h57 : ¬ 57 < (s[k].toNat : Int) := by omega
        have Hd2 := Lib.hid (Hd.out (digB_yes h48 h57))
        clear hd
        go_wp2_with fail
        go_roundw
        case rel => exact ⟨k + 1, _, by omega, by go_num, rfl, by rw [Hst.out, ← Hz.out], by omega, by omega, Hd2.out, hbr⟩
        case measure => simp [intOf]; omega
    · obtain rfl : k = s.size := by omega
      have He := Lib.hid (dig_end hall); clear hall
      go_wp2_with fail
      go_ret2
      exact ⟨by rw [He.out.1, He.out.2, ← Hz.out]; rfl, hbr⟩

set_option maxHeartbeats 1000000 in
theorem ref_least (a b : Int) (w : World) (hb : 0 ≤ b) :
    Calls Tryd.prog 46 #[.int .i64 a, .int .i64 b] w fun e w' => e = .returned (.int .i64 (if a < 0 then b else if b < 0 then a else min a b)) ∧ Ext w w' := by
  go_enter Tryd.func46, Tryd.ntmps46
  have H : Ext w w := Ext.refl w
  generalize hr : (if a < 0 then b else if b < 0 then a else min a b) = r
  have Hr := Lib.hid hr; clear hr
  by_cases ha : a < 0
  · go_wp2_with fail
    go_ret
    exact ⟨congrArg (fun x => Ending.returned (.int .i64 x)) (by rw [← Hr.out, if_pos (by omega)]), H⟩
  · go_wp2_with fail
    go_ret
    exact ⟨congrArg (fun x => Ending.returned (.int .i64 x)) (by rw [← Hr.out, if_neg (by omega), if_neg (by omega)]), H⟩
end Go.Proofs.YtaebbnadmfbdjaaDoor
