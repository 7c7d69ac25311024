
/- The walks of syntax.tchar, syntax.Token, quaysideref01.tchar, quaysideref01.Token. -/
import Derived.Test.YteibmmhdlikckaaDoorSpec2
import Derived.Test.YteibmmhdlikckaaDoorRows
import Derived.Test.YteibmmhdlikckaaDoorShelf
import Derived.Lib.IndexAny
set_option linter.unusedSimpArgs false
set_option linter.unusedVariables false
namespace Go.Proofs.YteibmmhdlikckaaDoor
open Go.RowKit

def marks : List UInt8 := [33, 35, 36, 37, 38, 39, 42, 43, 45, 46, 94, 95, 96, 124, 126]
/-- Is it a sign of a token? -/
def tcharB (c : UInt8) : Bool := (48 ≤ c && c ≤ 57) || (97 ≤ c && c ≤ 122) || (65 ≤ c && c ≤ 90) || marks.contains c
/-- Is a string a token? -/
def tokS (s : ByteArray) : Bool := s.data.toList.all tcharB && decide (0 < s.size)

theorem tchar_alnum {c : UInt8} (h : ((48 : Int) ≤ c.toNat ∧ (c.toNat : Int) ≤ 57) ∨ ((97 : Int) ≤ c.toNat ∧ (c.toNat : Int) ≤ 122) ∨ ((65 : Int) ≤ c.toNat ∧ (c.toNat : Int) ≤ 90)) : tcharB c = true := by
  unfold tcharB
  rcases h with h | h | h
  · have : (48 ≤ c && c ≤ 57) = true := by simp [UInt8.le_iff_toNat_le]; omega
    simp [this]
  · have : (97 ≤ c && c ≤ 122) = true := by simp [UInt8.le_iff_toNat_le]; omega
    simp [this]
  · have : (65 ≤ c && c ≤ 90) = true := by simp [UInt8.le_iff_toNat_le]; omega
    simp [this]
theorem tchar_mark {c : UInt8} (h1 : ¬ ((48 : Int) ≤ c.toNat ∧ (c.toNat : Int) ≤ 57)) (h2 : ¬ ((97 : Int) ≤ c.toNat ∧ (c.toNat : Int) ≤ 122)) (h3 : ¬ ((65 : Int) ≤ c.toNat ∧ (c.toNat : Int) ≤ 90)) : tcharB c = marks.contains c := by
  unfold tcharB
  have a1 : (48 ≤ c && c ≤ 57) = false := by
    rw [Bool.eq_false_iff]; simp [UInt8.le_iff_toNat_le]; omega
  have a2 : (97 ≤ c && c ≤ 122) = false := by
    rw [Bool.eq_false_iff]; simp [UInt8.le_iff_toNat_le]; omega
  have a3 : (65 ≤ c && c ≤ 90) = false := by
    rw [Bool.eq_false_iff]; simp [UInt8.le_iff_toNat_le]; omega
  rw [a1, a2, a3]; rfl
theorem tok_step {s : ByteArray} {k : Nat} (h : k < s.size) (h1 : (s.data.toList.take k).all tcharB = true) (h2 : tcharB s.data[k] = true) : (s.data.toList.take (k + 1)).all tcharB = true := by
  rw [take_step _ k (by simpa using h), List.all_append, h1]
  simpa using h2
theorem tok_no {s : ByteArray} {k : Nat} (h : k < s.size) (h2 : tcharB s.data[k] = false) : false = tokS s := by
  have h3 : s.data.toList.all tcharB = false := by
    rw [List.all_eq_false]
    exact ⟨s.data[k], by simp, by simp [h2]⟩
  rw [tokS, h3]; rfl
theorem tok_end {s : ByteArray} (h1 : (s.data.toList.take s.size).all tcharB = true) : tokS s = decide (0 < s.size) := by
  rw [List.take_of_length_le (by simp)] at h1
  rw [tokS, h1, Bool.true_and]
theorem ne_empty (s : ByteArray) : (!(s.toList == (⟨#[]⟩ : ByteArray).toList)) = decide (0 < s.size) := by
  rw [Bool.eq_iff_iff]
  simp only [Bool.not_eq_true', decide_eq_true_eq]
  rw [← Bool.not_eq_true, eqS_iff]
  constructor
  · intro h
    rcases Nat.eq_zero_or_pos s.size with h0 | h0
    · exact absurd (ByteArray.size_eq_zero_iff.1 h0) h
    · exact h0
  · intro h e; subst e; exact absurd h (by decide)

theorem indexMarks (c : UInt8) : decide (0 ≤ Lib.indexByte marks c) = marks.contains c := (Lib.contains_iff_indexByte _ _).symm

set_option maxHeartbeats 1000000 in
theorem syntax_tchar (c : UInt8) (w : World) :
    Calls Tryd.prog 38 #[.int .u8 (c.toNat : Int)] w fun e w' => e = .returned (.bool (tcharB c)) ∧ Ext w w' := by
  go_enter Tryd.func38, Tryd.ntmps38
  have h1 := Lib.hid (@tchar_alnum c)
  have h2 := Lib.hid (@tchar_mark c)
  have hi := Tryd.strings_IndexByte ⟨marks.toArray⟩ (c.toNat : Int)
  rw [show ((c.toNat : Int)).toNat.toUInt8 = c by simp, show (⟨marks.toArray⟩ : ByteArray).data.toList = marks from rfl] at hi
  have Hi := Lib.hid hi; clear hi
  go_wp2_with fail
  all_goals first
    | (go_ret; exact ⟨congrArg (fun x => Ending.returned (.bool x)) (h1.out (by omega)).symm, Ext.refl _⟩)
    | (refine (Hi.out _).mono ?_; rintro e w1 ⟨rfl, rfl⟩
       have hx := h2.out (by omega) (by omega) (by omega)
       rw [← indexMarks] at hx
       generalize Lib.indexByte marks c = I at *
       have Hx := Lib.hid hx; clear hx
       go_wp2_with fail
       all_goals (go_ret; refine ⟨congrArg (fun x => Ending.returned (.bool x)) ?_, Ext.refl _⟩; rw [Hx.out] <;> simp <;> omega))

set_option maxHeartbeats 1000000 in
theorem syntax_Token (s : ByteArray) (w : World) (hs : s.size ≤ 4611686018427387904) :
    Calls Tryd.prog 22 #[.string s] w fun e w' => e = .returned (.bool (tokS s)) ∧ Ext w w' := by
  go_enter Tryd.func22, Tryd.ntmps22
  go_wp2_with fail
  go_loopw [6] (fun i wr => ∃ k, k ≤ s.size ∧ i = .int .i64 (k : Nat) ∧ (s.data.toList.take k).all tcharB = true ∧ Ext w wr) (fun i _ => s.size - (intOf i).toNat)
  case atStart => exact ⟨0, Nat.zero_le _, rfl, rfl, Ext.refl _⟩
  case round =>
    obtain ⟨k, hk, rfl, hall, hbr⟩ := hrel
    by_cases hlt : k < s.size
    · have Hst := Lib.hid (tok_step hlt hall); clear hall
      have Hno := Lib.hid (tok_no hlt)
      have Hc := Lib.hid (syntax_tchar s.data[k])
      go_wp2_with fail
      refine (Hc.out _).mono ?_; rintro e w2 ⟨rfl, hb2⟩
      generalize tcharB s.data[k] = b at *
      cases b
      · go_wp2_with fail
        go_ret
        exact ⟨congrArg (fun x => Ending.returned (.bool x)) (Hno.out trivial), hbr.trans hb2⟩
      · go_wp2_with fail
        go_roundw
        case rel => exact ⟨k + 1, by omega, by go_num, Hst.out trivial, hbr.trans hb2⟩
        case measure => simp [intOf]; omega
    · obtain rfl : k = s.size := by omega
      have He := Lib.hid ((tok_end hall).trans (ne_empty s).symm); clear hall
      go_wp2_with fail
      all_goals (go_ret; exact ⟨congrArg (fun x => Ending.returned (.bool x)) (by simpa using He.out.symm), hbr⟩)

theorem marks_at {c : UInt8} {S : ByteArray} (hS : S.data = marks.toArray) {k : Nat} (h : k < S.size) (e : ((S[k].toNat : Int) == c.toNat) = true) : true = marks.contains c := by
  have h2 : S[k] = c := UInt8.toNat_inj.1 (by simp at e; omega)
  have h3 : c ∈ S.data.toList := by
    rw [← h2, Array.mem_toList_iff]; exact Array.getElem_mem (xs := S.data) h
  rw [hS] at h3
  simp only [List.contains_eq_mem]
  simpa using h3
theorem marks_step {c : UInt8} {S : ByteArray} (_ : S.data = marks.toArray) {k : Nat} (h : k < S.size) (h1 : (S.data.toList.take k).contains c = false) (e : ((S[k].toNat : Int) == c.toNat) = false) : (S.data.toList.take (k + 1)).contains c = false := by
  rw [take_step S.data.toList k (by simpa using h)]
  simp only [List.contains_eq_mem, List.mem_append, decide_eq_false_iff_not, not_or] at *
  refine ⟨h1, ?_⟩
  simp only [List.mem_singleton]
  rintro rfl
  simp at e
  exact e rfl

set_option maxHeartbeats 1000000 in
theorem ref_tchar (c : UInt8) (w : World) :
    Calls Tryd.prog 46 #[.int .u8 (c.toNat : Int)] w fun e w' => e = .returned (.bool (tcharB c)) ∧ Ext w w' := by
  go_enter Tryd.func46, Tryd.ntmps46
  have h1 := Lib.hid (@tchar_alnum c)
  have h2 := Lib.hid (@tchar_mark c)
  generalize hS : (⟨#[33, 35, 36, 37, 38, 39, 42, 43, 45, 46, 94, 95, 96, 124, 126]⟩ : ByteArray) = S
  have hz : S.size = 15 := by rw [← hS]; rfl
  have hSd : S.data = marks.toArray := by rw [← hS]; rfl
  clear hS
  have Hsd := Lib.hid hSd; clear hSd
  go_wp2_with fail
  all_goals first
    | (go_ret; exact ⟨congrArg (fun x => Ending.returned (.bool x)) (h1.out (by omega)).symm, Ext.refl _⟩)
    | (have hx := Lib.hid (h2.out (by omega) (by omega) (by omega))
       go_loopw [29] (fun i wr => ∃ k, k ≤ S.size ∧ i = .int .i64 (k : Nat) ∧ (S.data.toList.take k).contains c = false ∧ Ext w wr) (fun i _ => S.size - (intOf i).toNat)
       case atStart => exact ⟨0, Nat.zero_le _, rfl, rfl, Ext.refl _⟩
       case round =>
         obtain ⟨k, hk, rfl, hall, hbr⟩ := hrel
         by_cases hlt : k < S.size
         · have Hst := Lib.hid (marks_step (c := c) Hsd.out hlt hall); clear hall
           have Ha := Lib.hid (marks_at (c := c) Hsd.out hlt)
           go_wp2_with fail
           · go_ret
             refine ⟨congrArg (fun x => Ending.returned (.bool x)) ?_, hbr⟩
             rw [hx.out]; exact Ha.out (by assumption)
           · go_roundw
             case rel => exact ⟨k + 1, by omega, by go_num, Hst.out (by assumption), hbr⟩
             case measure => simp [intOf]; omega
         · obtain rfl : k = S.size := by omega
           have hm : marks.contains c = false := by rw [List.take_of_length_le (by simp), Hsd.out] at hall; exact hall
           clear hall
           have Hm := Lib.hid hm; clear hm
           go_wp2_with fail
           go_ret
           exact ⟨congrArg (fun x => Ending.returned (.bool x)) (hx.out.trans Hm.out).symm, hbr⟩)

set_option maxHeartbeats 1000000 in
theorem ref_Token (s : ByteArray) (w : World) (hs : s.size ≤ 4611686018427387904) :
    Calls Tryd.prog 26 #[.string s] w fun e w' => e = .returned (.bool (tokS s)) ∧ Ext w w' := by
  go_enter Tryd.func26, Tryd.ntmps26
  go_wp2_with fail
  go_loopw [6] (fun i wr => ∃ k, k ≤ s.size ∧ i = .int .i64 (k : Nat) ∧ (s.data.toList.take k).all tcharB = true ∧ Ext w wr) (fun i _ => s.size - (intOf i).toNat)
  case atStart => exact ⟨0, Nat.zero_le _, rfl, rfl, Ext.refl _⟩
  case round =>
    obtain ⟨k, hk, rfl, hall, hbr⟩ := hrel
    by_cases hlt : k < s.size
    · have Hst := Lib.hid (tok_step hlt hall); clear hall
      have Hno := Lib.hid (tok_no hlt)
      have Hc := Lib.hid (ref_tchar s.data[k])
      go_wp2_with fail
      refine (Hc.out _).mono ?_; rintro e w2 ⟨rfl, hb2⟩
      generalize tcharB s.data[k] = b at *
      cases b
      · go_wp2_with fail
        go_ret
        exact ⟨congrArg (fun x => Ending.returned (.bool x)) (Hno.out trivial), hbr.trans hb2⟩
      · go_wp2_with fail
        go_roundw
        case rel => exact ⟨k + 1, by omega, by go_num, Hst.out trivial, hbr.trans hb2⟩
        case measure => simp [intOf]; omega
    · obtain rfl : k = s.size := by omega
      have He := Lib.hid (tok_end hall); clear hall
      go_wp2_with fail
      all_goals (go_ret; refine ⟨congrArg (fun x => Ending.returned (.bool x)) ?_, hbr⟩; rw [He.out]; try simp; try omega)
end Go.Proofs.YteibmmhdlikckaaDoor
