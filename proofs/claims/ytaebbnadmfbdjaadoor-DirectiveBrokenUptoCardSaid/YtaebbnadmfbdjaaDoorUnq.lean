
/- The walk of quaysideref01.Unquote; what a quoted string stands for, in plain words. -/
import Derived.Test.YtaebbnadmfbdjaaDoorDir1
set_option linter.unusedSimpArgs false
set_option linter.unusedVariables false
namespace Go.Proofs.YtaebbnadmfbdjaaDoor
open Go.RowKit

/-- What stands from place i on, behind out. -/
def unqGo (s : ByteArray) (i : Nat) (out : ByteArray) : Option ByteArray :=
  if h : i < s.size then
    if s[i] = 34 then (if i + 1 < s.size then none else some out)
    else if s[i] = 92 then (if i + 1 < s.size then unqGo s (i + 2) (out ++ s.extract (i + 1) (i + 2)) else none)
    else unqGo s (i + 1) (out ++ s.extract i (i + 1))
  else none
termination_by s.size - i
/-- What a quoted string stands for. -/
def unqS (s : ByteArray) : Option ByteArray :=
  if ctlS s = true then none else if h : s.size < 2 then none else if s[0] = 34 then unqGo s 1 ⟨#[]⟩ else none

section
variable {s out : ByteArray} {i : Nat}
theorem unq_end (h : ¬ i < s.size) : unqGo s i out = none := by rw [unqGo, dif_neg h]
theorem unq_quo (h : i < s.size) (hc : (s[i].toNat : Int) = 34) : unqGo s i out = if i + 1 < s.size then none else some out := by
  rw [unqGo, dif_pos h, if_pos (u8_of 34 hc)]
theorem unq_esc (h : i < s.size) (hc : (s[i].toNat : Int) = 92) (h2 : i + 1 < s.size) : unqGo s i out = unqGo s (i + 2) (out ++ s.extract (i + 1) (i + 2)) := by
  have e := u8_of 92 hc
  rw [unqGo, dif_pos h, if_neg (by rw [e]; decide), if_pos e, if_pos h2]
theorem unq_esc_end (h : i < s.size) (hc : (s[i].toNat : Int) = 92) (h2 : ¬ i + 1 < s.size) : unqGo s i out = none := by
  have e := u8_of 92 hc
  rw [unqGo, dif_pos h, if_neg (by rw [e]; decide), if_pos e, if_neg h2]
theorem unq_next (h : i < s.size) (h1 : ¬ (s[i].toNat : Int) = 34) (h2 : ¬ (s[i].toNat : Int) = 92) : unqGo s i out = unqGo s (i + 1) (out ++ s.extract i (i + 1)) := by
  rw [unqGo, dif_pos h, if_neg (by intro e; rw [e] at h1; exact h1 rfl), if_neg (by intro e; rw [e] at h2; exact h2 rfl)]
end
theorem unqS_ctl {s : ByteArray} (h : ctlS s = true) : unqS s = none := by unfold unqS; rw [if_pos h]
theorem unqS_short {s : ByteArray} (h : s.size < 2) : unqS s = none := by
  unfold unqS; split
  · rfl
  · rfl
theorem unqS_no {s : ByteArray} (h2 : ¬ s.size < 2) (h : ¬ ((s[0]'(by omega)).toNat : Int) = 34) : unqS s = none := by
  unfold unqS; split
  · rfl
  · rw [if_neg (by intro e; rw [e] at h; exact h rfl)]
theorem unqS_go {s : ByteArray} (hc : ctlS s = false) (h2 : ¬ s.size < 2) (h : ((s[0]'(by omega)).toNat : Int) = 34) : unqGo s 1 ⟨#[]⟩ = unqS s := by
  unfold unqS; rw [if_neg (by simp [hc]), dif_neg h2, if_pos (u8_of 34 h)]

set_option maxHeartbeats 2000000 in
theorem ref_Unquote (s : ByteArray) (w : World) (hs : s.size ≤ 1048576) :
    Calls Tryd.prog 59 #[.string s] w fun e w' => e = .returned (.tuple #[.string ((unqS s).getD ⟨#[]⟩), .bool (unqS s).isSome]) ∧ Ext w w' := by
  go_enter Tryd.func59, Tryd.ntmps59
  go_wp2_with fail
  refine (ref_Control s _ (by omega)).mono ?_; rintro e w1 ⟨rfl, hb1⟩
  cases hct : ctlS s
  · by_cases h2 : s.size < 2
    · have Hn := Lib.hid (unqS_short h2)
      go_wp2_with fail
      go_ret2
      exact ⟨by rw [Hn.out]; rfl, hb1⟩
    · by_cases h34 : ((s[0]'(by omega)).toNat : Int) = 34
      · have Hgo := Lib.hid (unqS_go hct h2 h34); clear hct
        go_wp2_with fail
        go_loopw [4, 5] (fun v i wr => ∃ k X, k ≤ s.size + 1 ∧ 1 ≤ k ∧ i = .int .i64 (k : Nat) ∧ v = .string X ∧ X.size ≤ k ∧ unqGo s k X = unqS s ∧ Ext w1 wr) (fun _ i _ => s.size + 1 - (intOf i).toNat)
        case atStart => exact ⟨1, ⟨#[]⟩, by omega, Nat.le_refl _, rfl, rfl, by decide, Hgo.out, Ext.refl _⟩
        case round =>
          obtain ⟨k, X, hk, hk1, rfl, rfl, hX, hgo, hbr⟩ := hrel
          have hsum : ∀ b : ByteArray, b.size ≤ 1 → ∀ w, (Op.stringOp .add X b).run Tryd.prog w = .ok (.string (X ++ b)) w := fun b hb w => run_string_add_sum w X _ (by omega)
          by_cases hlt : k < s.size
          · by_cases hq : (s[k].toNat : Int) = 34
            · have HG := Lib.hid ((unq_quo (out := X) hlt hq).symm.trans hgo); clear hgo
              by_cases hend : k + 1 < s.size
              · have HN : _ := Lib.hid (show none = unqS s by rw [← HG.out, if_pos hend])
                go_wp2_with fail
                go_ret2
                exact ⟨by rw [← HN.out]; rfl, hb1.trans hbr⟩
              · have HN : _ := Lib.hid (show some X = unqS s by rw [← HG.out, if_neg hend])
                have hke : k + 1 = s.size := by omega
                go_wp2_with fail
                go_ret2
                exact ⟨by rw [← HN.out]; rfl, hb1.trans hbr⟩
            · by_cases h92 : (s[k].toNat : Int) = 92
              · by_cases hend : k + 1 < s.size
                · have HG := Lib.hid ((unq_esc (out := X) hlt h92 hend).symm.trans hgo); clear hgo
                  have hz : (s.extract (k + 1) (k + 2)).size ≤ 1 := by rw [ByteArray.size_extract]; omega
                  have hsm := hsum _ hz
                  clear hsum
                  have hz2 : (X ++ s.extract (k + 1) (k + 2)).size ≤ k + 2 := by rw [ByteArray.size_append]; omega
                  have Hz2 := Lib.hid hz2; clear hz2
                  go_wp2_with fail
                  go_roundw
                  case rel => exact ⟨k + 2, X ++ s.extract (k + 1) (k + 2), by omega, by omega, by go_num, rfl, Hz2.out, HG.out, hbr⟩
                  case measure => simp [intOf]; omega
                · have HG := Lib.hid ((unq_esc_end (out := X) hlt h92 hend).symm.trans hgo); clear hgo
                  clear hsum
                  go_wp2_with fail
                  go_roundw
                  case rel => exact ⟨k + 2, X, by omega, by omega, by go_num, rfl, by omega, by rw [unq_end (by omega)]; exact HG.out, hbr⟩
                  case measure => simp [intOf]; omega
              · have HG := Lib.hid ((unq_next (out := X) hlt hq h92).symm.trans hgo); clear hgo
                have hz : (s.extract k (k + 1)).size ≤ 1 := by rw [ByteArray.size_extract]; omega
                have hsm := hsum _ hz
                clear hsum
                have hz2 : (X ++ s.extract k (k + 1)).size ≤ k + 1 := by rw [ByteArray.size_append]; omega
                have Hz2 := Lib.hid hz2; clear hz2
                go_wp2_with fail
                go_roundw
                case rel => exact ⟨k + 1, X ++ s.extract k (k + 1), by omega, by omega, by go_num, rfl, Hz2.out, HG.out, hbr⟩
                case measure => simp [intOf]; omega
          · have HG := Lib.hid ((unq_end (out := X) hlt).symm.trans hgo); clear hgo
            clear hsum
            go_wp2_with fail
            go_ret2
            exact ⟨by rw [← HG.out]; rfl, hb1.trans hbr⟩
      · have Hn := Lib.hid (unqS_no h2 h34)
        have hne : (((s[0]'(by omega)).toNat : Int) != 34) = true := by simp [h34]
        clear hct
        go_wp2_with fail
        go_ret2
        exact ⟨by rw [Hn.out]; rfl, hb1⟩
  · have Hn := Lib.hid (unqS_ctl hct); clear hct
    go_wp2_with fail
    go_ret2
    exact ⟨by rw [Hn.out]; rfl, hb1⟩
end Go.Proofs.YtaebbnadmfbdjaaDoor
