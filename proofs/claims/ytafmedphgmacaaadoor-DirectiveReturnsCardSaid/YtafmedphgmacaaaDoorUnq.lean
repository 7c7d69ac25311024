
/- The walk of quaysideref01.Unquote; what a quoted string stands for, in plain words. -/
import Derived.Test.YtafmedphgmacaaaDoorDir1
namespace Go.Proofs.YtafmedphgmacaaaDoor
open Go.RowKit

/-- What stands from place i on, behind out. -/
def unqGo (s : ByteArray) (i : Nat) (out : ByteArray) : Option ByteArray :=
  if h : i < s.size then
    if s[i] = 34 then (if i + 1 < s.size then none else some out)
    else if s[i] = 92 then (if i + 1 < s.size then unqGo s (i + 2) (out ++ s.extract (i + 1) (i + 2)) else none)
    else unqGo s (i + 1) (out ++ s.extract i (i + 1))
  else none
termination_by s.size - i
/-- What a quoted string stands for. -/
def unqS (s : ByteArray) : Option ByteArray :=
  if ctlS s = true then none else if h : s.size < 2 then none else if s[0] = 34 then unqGo s 1 ⟨#[]⟩ else none

section
variable {s out : ByteArray} {i : Nat}
theorem unq_end (h : ¬ i < s.size) : unqGo s i out = none := by rw [unqGo, dif_neg h]
theorem unq_quo (h : i < s.size) (hc : (s[i].toNat : Int) = 34) : unqGo s i out = if i + 1 < s.size then none else some out := by
  rw [unqGo, dif_pos h, if_pos (u8_of 34 hc)]
theorem unq_esc (h : i < s.size) (hc : (s[i].toNat : Int) = 92) (h2 : i + 1 < s.size) : unqGo s i out = unqGo s (i + 2) (out ++ s.extract (i + 1) (i + 2)) := by
  have e := u8_of 92 hc
  rw [unqGo, dif_pos h, if_neg (by rw [e]; decide), if_pos e, if_pos h2]
theorem unq_esc_end (h : i < s.size) (hc : (s[i].toNat : Int) = 92) (h2 : ¬ i + 1 < s.size) : unqGo s i out = none := by
  have e := u8_of 92 hc
  rw [unqGo, dif_pos h, if_neg (by rw [e]; decide), if_pos e, if_neg h2]
theorem unq_next (h : i < s.size) (h1 : ¬ (s[i].toNat : Int) = 34) (h2 : ¬ (s[i].toNat : Int) = 92) : unqGo s i out = unqGo s (i + 1) (out ++ s.extract i (i + 1)) := by
  rw [unqGo, dif_pos h, if_neg (by intro e; rw [e] at h1; exact h1 rfl), if_neg (by intro e; rw [e] at h2; exact h2 rfl)]
end
theorem unqS_ctl {s : ByteArray} (h : ctlS s = true) : unqS s = none := by unfold unqS; rw [if_pos h]
theorem unqS_short {s : ByteArray} (h : s.size < 2) : unqS s = none := by
  unfold unqS; split
  · rfl
  · rfl
theorem unqS_no {s : ByteArray} (h2 : ¬ s.size < 2) (h : ¬ ((s[0]'(by omega)).toNat : Int) = 34) : unqS s = none := by
  unfold unqS; split
  · rfl
  · rw [if_neg (by intro e; rw [e] at h; exact h rfl)]
theorem unqS_go {s : ByteArray} (hc : ctlS s = false) (h2 : ¬ s.size < 2) (h : ((s[0]'(by omega)).toNat : Int) = 34) : unqGo s 1 ⟨#[]⟩ = unqS s := by
  unfold unqS; rw [if_neg (by simp [hc]), dif_neg h2, if_pos (u8_of 34 h)]

end Go.Proofs.YtafmedphgmacaaaDoor
