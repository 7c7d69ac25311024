
/- The walks of field.Name, field.Value, quaysideref02.Name, quaysideref02.Value, quaysidebase.Num, quaysidelaw02.FieldNames. -/
import Derived.Test.YteibmmhdlikckaaDoorTok
import Derived.Test.YteibmmhdlikckaaDoorCtl
import Derived.Test.YteibmmhdlikckaaDoorLaw2
set_option linter.unusedSimpArgs false
set_option linter.unusedVariables false
namespace Go.Proofs.YteibmmhdlikckaaDoor
open Go.RowKit

/-- An error by its number: 0 is none. -/
def errV (n : Nat) : Value := if n = 0 then .nilIface else .iface 47 (.int .i64 n)
def nameE (s : ByteArray) : Nat := if tokS s then (if s.size > 64 then 5 else 0) else 8
def nameS (s : ByteArray) : ByteArray := if nameE s = 0 then lowS s else ⟨#[]⟩
def valueE (s : ByteArray) : Nat := if ctlS s then 2 else (if (trimF s).size > 2048 then 5 else 0)
def valueS (s : ByteArray) : ByteArray := if valueE s = 0 then trimF s else ⟨#[]⟩
theorem nameE_lt (s : ByteArray) : nameE s < 9 := by unfold nameE; split <;> (try split) <;> omega
theorem valueE_lt (s : ByteArray) : valueE s < 9 := by unfold valueE; split <;> (try split) <;> omega
theorem name_no {s : ByteArray} (h : tokS s = false) : nameE s = 8 ∧ nameS s = ⟨#[]⟩ := by
  have : nameE s = 8 := by unfold nameE; rw [h]; rfl
  exact ⟨this, by unfold nameS; rw [this]; rfl⟩
theorem name_big {s : ByteArray} (h : tokS s = true) (h2 : s.size > 64) : nameE s = 5 ∧ nameS s = ⟨#[]⟩ := by
  have : nameE s = 5 := by unfold nameE; rw [if_pos h, if_pos h2]
  exact ⟨this, by unfold nameS; rw [this]; rfl⟩
theorem name_ok {s : ByteArray} (h : tokS s = true) (h2 : ¬ s.size > 64) : nameE s = 0 ∧ nameS s = lowS s := by
  have : nameE s = 0 := by unfold nameE; rw [if_pos h, if_neg h2]
  exact ⟨this, by unfold nameS; rw [this]; rfl⟩
theorem value_no {s : ByteArray} (h : ctlS s = true) : valueE s = 2 ∧ valueS s = ⟨#[]⟩ := by
  have : valueE s = 2 := by unfold valueE; rw [h]; rfl
  exact ⟨this, by unfold valueS; rw [this]; rfl⟩
theorem value_big {s : ByteArray} (h : ctlS s = false) (h2 : (trimF s).size > 2048) : valueE s = 5 ∧ valueS s = ⟨#[]⟩ := by
  have : valueE s = 5 := by unfold valueE; rw [if_neg (by simp [h]), if_pos h2]
  exact ⟨this, by unfold valueS; rw [this]; rfl⟩
theorem value_ok {s : ByteArray} (h : ctlS s = false) (h2 : ¬ (trimF s).size > 2048) : valueE s = 0 ∧ valueS s = trimF s := by
  have : valueE s = 0 := by unfold valueE; rw [if_neg (by simp [h]), if_neg h2]
  exact ⟨this, by unfold valueS; rw [this]; rfl⟩
theorem drop_le {α : Type} (p : α → Bool) : ∀ l : List α, (l.dropWhile p).length ≤ l.length
  | [] => Nat.le_refl _
  | x :: l => by
    rw [List.dropWhile_cons]
    split
    · exact Nat.le_succ_of_le (drop_le p l)
    · exact Nat.le_refl _
theorem trimF_size (s : ByteArray) : (trimF s).size ≤ s.size := by
  show (Lib.trimS s.data.toList blank).toArray.size ≤ s.data.size
  unfold Lib.trimS Lib.trimLeftS Lib.trimRightS
  have h1 := drop_le (blank.contains ·) s.data.toList.reverse
  have h2 := drop_le (blank.contains ·) (s.data.toList.reverse.dropWhile (blank.contains ·)).reverse
  simp only [List.length_reverse, Array.length_toList, List.size_toArray] at *
  omega

/-- A contract's end: a string and an error's number. -/
theorem fin2 {w w' : World} {a b : ByteArray} {n m : Nat} {f : Nat → Value} (h : n = m ∧ a = b) (he : Ext w w') :
    (Ending.returned (.tuple #[.string b, f m]) : Ending) = .returned (.tuple #[.string a, f n]) ∧ Ext w w' := by
  obtain ⟨rfl, rfl⟩ := h; exact ⟨rfl, he⟩

set_option maxHeartbeats 1000000 in
theorem field_Name (s : ByteArray) (w : World) (hs : s.size ≤ 4611686018427387904) :
    Calls Tryd.prog 7 #[.string s] w fun e w' => e = .returned (.tuple #[.string (nameS s), errV (nameE s)]) ∧ Ext w w' := by
  go_enter Tryd.func7, Tryd.ntmps7
  go_wp2_with fail
  refine (syntax_Token s _ hs).mono ?_; rintro e w1 ⟨rfl, hb1⟩
  have hno := Lib.hid (@name_no s); have hbig := Lib.hid (@name_big s); have hok := Lib.hid (@name_ok s)
  generalize tokS s = b at *
  cases b
  · go_wp2_with fail
    go_ret2
    exact fin2 (f := errV) (hno.out trivial) hb1
  · by_cases h64 : s.size > 64
    · go_wp2_with fail
      go_ret2
      exact fin2 (f := errV) (hbig.out trivial h64) hb1
    · go_wp2_with fail
      refine (field_lower s _ (by omega)).mono ?_; rintro e w2 ⟨rfl, hb2⟩
      go_wp2_with fail
      go_ret2
      exact fin2 (f := errV) (hok.out trivial h64) (hb1.trans hb2)

set_option maxHeartbeats 1000000 in
theorem ref_Name (s : ByteArray) (w : World) (hs : s.size ≤ 4611686018427387904) :
    Calls Tryd.prog 9 #[.string s] w fun e w' => e = .returned (.tuple #[.string (nameS s), .int .i64 (nameE s : Nat)]) ∧ Ext w w' := by
  go_enter Tryd.func9, Tryd.ntmps9
  go_wp2_with fail
  refine (ref_Token s _ hs).mono ?_; rintro e w1 ⟨rfl, hb1⟩
  have hno := Lib.hid (@name_no s); have hbig := Lib.hid (@name_big s); have hok := Lib.hid (@name_ok s)
  generalize tokS s = b at *
  cases b
  · go_wp2_with fail
    go_ret2
    exact fin2 (f := fun n => .int .i64 (n : Nat)) (hno.out trivial) hb1
  · by_cases h64 : s.size > 64
    · go_wp2_with fail
      go_ret2
      exact fin2 (f := fun n => .int .i64 (n : Nat)) (hbig.out trivial h64) hb1
    · go_wp2_with fail
      refine (ref_Lower s _ hs).mono ?_; rintro e w2 ⟨rfl, hb2⟩
      go_wp2_with fail
      go_ret2
      exact fin2 (f := fun n => .int .i64 (n : Nat)) (hok.out trivial h64) (hb1.trans hb2)

set_option maxHeartbeats 1000000 in
theorem field_Value (s : ByteArray) (w : World) (hs : s.size ≤ 4611686018427387904) :
    Calls Tryd.prog 8 #[.string s] w fun e w' => e = .returned (.tuple #[.string (valueS s), errV (valueE s)]) ∧ Ext w w' := by
  go_enter Tryd.func8, Tryd.ntmps8
  go_wp2_with fail
  refine (field_control s _ hs).mono ?_; rintro e w1 ⟨rfl, hb1⟩
  have hno := Lib.hid (@value_no s); have hbig := Lib.hid (@value_big s); have hok := Lib.hid (@value_ok s)
  generalize ctlS s = b at *
  cases b
  · go_wp2_with fail
    refine (strings_Trim_blank s _ (by omega)).mono ?_; rintro e w2 ⟨rfl, hb2⟩
    have htl := trimF_size s
    generalize trimF s = T at *
    by_cases h64 : T.size > 2048
    · go_wp2_with fail
      go_ret2
      exact fin2 (f := errV) (hbig.out trivial h64) (hb1.trans hb2)
    · go_wp2_with fail
      go_ret2
      exact fin2 (f := errV) (hok.out trivial h64) (hb1.trans hb2)
  · go_wp2_with fail
    go_ret2
    exact fin2 (f := errV) (hno.out trivial) hb1

set_option maxHeartbeats 1000000 in
theorem ref_Value (s : ByteArray) (w : World) (hs : s.size ≤ 4611686018427387904) :
    Calls Tryd.prog 10 #[.string s] w fun e w' => e = .returned (.tuple #[.string (valueS s), .int .i64 (valueE s : Nat)]) ∧ Ext w w' := by
  go_enter Tryd.func10, Tryd.ntmps10
  go_wp2_with fail
  refine (ref_Control s _ hs).mono ?_; rintro e w1 ⟨rfl, hb1⟩
  have hno := Lib.hid (@value_no s); have hbig := Lib.hid (@value_big s); have hok := Lib.hid (@value_ok s)
  generalize ctlS s = b at *
  cases b
  · go_wp2_with fail
    refine (ref_Trim s _ hs).mono ?_; rintro e w2 ⟨rfl, hb2⟩
    have htl := trimF_size s
    generalize trimF s = T at *
    by_cases h64 : T.size > 2048
    · go_wp2_with fail
      go_ret2
      exact fin2 (f := fun n => .int .i64 (n : Nat)) (hbig.out trivial h64) (hb1.trans hb2)
    · go_wp2_with fail
      go_ret2
      exact fin2 (f := fun n => .int .i64 (n : Nat)) (hok.out trivial h64) (hb1.trans hb2)
  · go_wp2_with fail
    go_ret2
    exact fin2 (f := fun n => .int .i64 (n : Nat)) (hno.out trivial) hb1

theorem assert_num (v : Value) (w : World) : (Instr.typeAssert (.iface 47 v) 24 47 true).run Tryd.prog w = .ok (.tuple #[v, .bool true]) w := by
  simp [Instr.typeAssert, run_underlying Tryd.underlying47]

set_option maxHeartbeats 1000000 in
theorem base_Num (n : Nat) (hn : n < 1000) (w : World) :
    Calls Tryd.prog 11 #[errV n] w fun e w' => e = .returned (.int .i64 (n : Nat)) ∧ Ext w w' := by
  rcases Nat.eq_zero_or_pos n with h0 | h0
  · subst h0
    rw [show errV 0 = .nilIface from rfl]
    go_enter Tryd.func11, Tryd.ntmps11
    go_wp2_with fail
    go_ret
    exact ⟨rfl, Ext.refl _⟩
  · rw [show errV n = .iface 47 (.int .i64 n) by unfold errV; rw [if_neg (by omega)]]
    go_enter Tryd.func11, Tryd.ntmps11
    have ha := assert_num (.int .i64 n)
    go_wp2_with fail
    go_ret
    exact ⟨rfl, Ext.refl _⟩
end Go.Proofs.YteibmmhdlikckaaDoor
