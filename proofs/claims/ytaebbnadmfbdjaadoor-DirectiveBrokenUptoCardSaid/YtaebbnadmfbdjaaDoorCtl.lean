
/- The walks of field.control, quaysideref01.Control, quaysideref01.Trim, and of strings.Trim at blank and tab. -/
import Derived.Test.YtaebbnadmfbdjaaDoorSpec2
import Derived.Test.YtaebbnadmfbdjaaDoorRows
import Derived.Test.YtaebbnadmfbdjaaDoorShelf
import Derived.Shelf.Strings.SlTrimAscii
set_option linter.unusedSimpArgs false
set_option linter.unusedVariables false
namespace Go.Proofs.YtaebbnadmfbdjaaDoor
open Go.RowKit

def ctlB (c : UInt8) : Bool := (decide ((c.toNat : Int) < 32) && !((c.toNat : Int) == 9)) || ((c.toNat : Int) == 127)
/-- Has a string a control sign? -/
def ctlS (s : ByteArray) : Bool := s.data.toList.any ctlB
theorem ctl_step {s : ByteArray} {k : Nat} (h : k < s.size) (h1 : (s.data.toList.take k).any ctlB = false) (h2 : ctlB s[k] = false) : (s.data.toList.take (k + 1)).any ctlB = false := by
  rw [take_step _ k (by simpa using h), List.any_append, h1]
  have h2 : ctlB s.data[k] = false := h2
  simpa using h2
theorem ctl_yes {s : ByteArray} {k : Nat} (h : k < s.size) (h2 : ctlB s[k] = true) : true = ctlS s := by
  have h2 : ctlB s.data[k] = true := h2
  symm
  unfold ctlS
  rw [List.any_eq_true]
  exact ⟨s.data[k], by simp, h2⟩
theorem ctl_end {s : ByteArray} (h1 : (s.data.toList.take s.size).any ctlB = false) : false = ctlS s := by
  rw [List.take_of_length_le (by simp)] at h1
  exact h1.symm

def blank : List UInt8 := [32, 9]
def bl (c : UInt8) : Bool := blank.contains c
/-- A string without blanks and tabs at its ends. -/
def trimF (s : ByteArray) : ByteArray := ⟨(Lib.trimS s.data.toList blank).toArray⟩

theorem trimL_cons (c : UInt8) (t : List UInt8) (h : bl c = true) : Lib.trimS (c :: t) blank = Lib.trimS t blank := by
  unfold Lib.trimS Lib.trimLeftS Lib.trimRightS
  rw [List.reverse_cons, List.dropWhile_append]
  split
  · rename_i he
    have he2 : t.reverse.dropWhile (blank.contains ·) = [] := by simpa using he
    have h3 : ([c].dropWhile (blank.contains ·)) = [] := by simp only [List.dropWhile_cons]; rw [if_pos (show blank.contains c = true from h)]; rfl
    rw [he2, h3]
  · rw [List.reverse_append, List.reverse_singleton, List.singleton_append, List.dropWhile_cons, if_pos (show blank.contains c = true from h)]
theorem trimL_snoc (c : UInt8) (t : List UInt8) (h : bl c = true) : Lib.trimS (t ++ [c]) blank = Lib.trimS t blank := by
  unfold Lib.trimS Lib.trimRightS
  rw [List.reverse_append, List.reverse_singleton, List.singleton_append, List.dropWhile_cons, if_pos (show blank.contains c = true from h)]
theorem trimL_self (t : List UInt8) (h1 : ∀ c, t.head? = some c → bl c = false) (h2 : ∀ c, t.getLast? = some c → bl c = false) : Lib.trimS t blank = t := by
  have hr : Lib.trimRightS t blank = t := by
    unfold Lib.trimRightS
    cases hh : t.reverse with
    | nil => rw [List.reverse_eq_nil_iff] at hh; subst hh; rfl
    | cons c r =>
      have h3 := h2 c (by rw [List.getLast?_eq_head?_reverse, hh]; rfl)
      rw [List.dropWhile_cons, if_neg (by simpa [bl] using h3), ← hh, List.reverse_reverse]
  unfold Lib.trimS
  rw [hr]
  unfold Lib.trimLeftS
  cases t with
  | nil => rfl
  | cons c r =>
    have h3 := h1 c rfl
    rw [List.dropWhile_cons, if_neg (by simpa [bl] using h3)]
theorem u8_eq (c d : UInt8) : ((c.toNat : Int) == (d.toNat : Int)) = (c == d) := by
  rw [Bool.eq_iff_iff]
  simp only [beq_iff_eq]
  constructor
  · intro h; exact UInt8.toNat_inj.1 (by omega)
  · intro h; rw [h]
theorem bl_iff (c : UInt8) : bl c = (((c.toNat : Int) == 32) || ((c.toNat : Int) == 9)) := by
  have e1 : ((c.toNat : Int) == 32) = (c == 32) := u8_eq c 32
  have e2 : ((c.toNat : Int) == 9) = (c == 9) := u8_eq c 9
  rw [e1, e2]
  simp only [bl, blank, List.contains_cons, List.contains_nil, Bool.or_false]
theorem bl_yes {c : UInt8} (h : (c.toNat : Int) = 32 ∨ (c.toNat : Int) = 9) : bl c = true := by rw [bl_iff]; simpa using h
theorem bl_no {c : UInt8} (h : ¬ ((c.toNat : Int) = 32 ∨ (c.toNat : Int) = 9)) : bl c = false := by rw [bl_iff]; simp at h ⊢; omega
theorem ctlB_yes {c : UInt8} (h : ((c.toNat : Int) < 32 ∧ ¬ (c.toNat : Int) = 9) ∨ (c.toNat : Int) = 127) : ctlB c = true := by
  unfold ctlB; simp only [Bool.or_eq_true, Bool.and_eq_true, decide_eq_true_eq, Bool.not_eq_true', beq_eq_false_iff_ne, beq_iff_eq]; omega
theorem ctlB_no {c : UInt8} (h : ¬ (((c.toNat : Int) < 32 ∧ ¬ (c.toNat : Int) = 9) ∨ (c.toNat : Int) = 127)) : ctlB c = false := by
  rw [Bool.eq_false_iff]; unfold ctlB; simp only [ne_eq, Bool.or_eq_true, Bool.and_eq_true, decide_eq_true_eq, Bool.not_eq_true', beq_eq_false_iff_ne, beq_iff_eq]; omega
def lenOf' : Value → Nat
  | .string b => b.size
  | _ => 0
theorem ext_drop (x : ByteArray) (i : Nat) : (x.extract i x.size).data.toList = x.data.toList.drop i := by
  rw [← ByteArray.toList_eq, Lib.extract_toList]
  rw [List.take_of_length_le (by simp)]
theorem ext_take (x : ByteArray) (i : Nat) : (x.extract 0 i).data.toList = x.data.toList.take i := by
  rw [← ByteArray.toList_eq, Lib.extract_toList, List.drop_zero, Nat.sub_zero]
theorem trim_front {x : ByteArray} (h0 : 0 < x.size) (h : bl x[0] = true) : trimF (x.extract 1 x.size) = trimF x := by
  unfold trimF
  rw [ext_drop]
  obtain ⟨⟨l⟩⟩ := x
  cases l with
  | nil => exact absurd h0 (by decide)
  | cons c r => 
    have := trimL_cons c r h
    simp only [List.drop_succ_cons, List.drop_zero]
    rw [this]
theorem trim_back {x : ByteArray} {j : Nat} (h0 : x.size = j + 1) (h : bl (x[j]'(by omega)) = true) : trimF (x.extract 0 j) = trimF x := by
  unfold trimF
  rw [ext_take]
  have hl : x.data.toList.length = j + 1 := by rw [← h0]; simp
  have h1 := take_step x.data.toList j (by omega)
  rw [List.take_of_length_le (by omega)] at h1
  have h2 := trimL_snoc (x.data.toList[j]'(by omega)) (x.data.toList.take j) h
  rw [← h1] at h2
  rw [h2]
/-- Begins it with no blank? -/
def front (x : ByteArray) : Prop := ∀ c, x.data.toList.head? = some c → bl c = false
theorem front_no {x : ByteArray} (h : ∀ h0 : 0 < x.size, bl x[0] = false) : front x := by
  intro c hc
  obtain ⟨⟨l⟩⟩ := x
  cases l with
  | nil => cases hc
  | cons d r =>
    simp only [List.head?_cons, Option.some.injEq] at hc
    subst hc
    exact h (Nat.succ_pos _)
theorem front_take {x : ByteArray} {j : Nat} (h : front x) : front (x.extract 0 j) := by
  intro c hc
  rw [ext_take] at hc
  cases j with
  | zero => cases hc
  | succ j =>
    refine h c ?_
    rw [← hc, List.head?_take, if_neg (by omega)]
theorem trim_end {x : ByteArray} (h1 : front x) (h2 : ∀ j (h0 : x.size = j + 1), bl (x[j]'(by omega)) = false) : trimF x = x := by
  unfold trimF
  rw [trimL_self _ h1 fun c hc => ?_]
  obtain ⟨⟨l⟩⟩ := x
  rw [List.getLast?_eq_getElem?] at hc
  obtain ⟨hl, he⟩ := List.getElem?_eq_some_iff.1 hc
  have := h2 (l.length - 1) (by show l.length = _; have : l.length - 1 < l.length := hl; omega)
  rw [← he]; exact this

theorem trim_end1 {y : ByteArray} {j : Nat} (hf : front y) (hj : y.size = j + 1) (h : bl (y[j]'(by omega)) = false) : trimF y = y :=
  trim_end hf fun j' h0 => by
    obtain rfl : j' = j := by omega
    exact h

theorem strings_Trim_blank (s : ByteArray) (w : World) (hs : s.size ≤ 9223372036854775807) :
    Calls Tryd.prog 54 #[.string s, .string ⟨#[32, 9]⟩] w fun e w' => e = .returned (.string (trimF s)) ∧ Ext w w' :=
  Any.strings_Trim_laid Tryd.lays160 (by kernel_rfl) s ⟨#[32, 9]⟩ w hs (by decide) (ascii_of_all (by decide))

set_option maxHeartbeats 1000000 in
theorem ref_Control (s : ByteArray) (w : World) (hs : s.size ≤ 4611686018427387904) :
    Calls Tryd.prog 48 #[.string s] w fun e w' => e = .returned (.bool (ctlS s)) ∧ Ext w w' := by
  go_enter Tryd.func48, Tryd.ntmps48
  go_wp2_with fail
  go_loopw [6] (fun i wr => ∃ k, k ≤ s.size ∧ i = .int .i64 (k : Nat) ∧ (s.data.toList.take k).any ctlB = false ∧ Ext w wr) (fun i _ => s.size - (intOf i).toNat)
  case atStart => exact ⟨0, Nat.zero_le _, rfl, rfl, Ext.refl _⟩
  case round =>
    obtain ⟨k, hk, rfl, hall, hbr⟩ := hrel
    by_cases hlt : k < s.size
    · have Hst := Lib.hid (ctl_step hlt hall); clear hall
      have Hyes := Lib.hid (ctl_yes hlt)
      have Hcy := Lib.hid (@ctlB_yes s[k])
      have Hcn := Lib.hid (@ctlB_no s[k])
      go_wp2_with fail
      all_goals first
        | (have hc := Hcn.out (by (try simp only [beq_iff_eq, beq_eq_false_iff_ne, ne_eq] at *); omega)
           go_roundw
           case rel => exact ⟨k + 1, by omega, by go_num, Hst.out hc, hbr⟩
           case measure => simp [intOf]; omega)
        | (have hc := Hcy.out (by (try simp only [beq_iff_eq, beq_eq_false_iff_ne, ne_eq] at *); omega)
           go_ret; exact ⟨congrArg (fun x => Ending.returned (.bool x)) (Hyes.out hc), hbr⟩)
    · obtain rfl : k = s.size := by omega
      have He := Lib.hid (ctl_end hall); clear hall
      go_wp2_with fail
      all_goals (go_ret; exact ⟨congrArg (fun x => Ending.returned (.bool x)) He.out, hbr⟩)

set_option maxHeartbeats 1000000 in
theorem ref_Trim (s : ByteArray) (w : World) (hs : s.size ≤ 4611686018427387904) :
    Calls Tryd.prog 47 #[.string s] w fun e w' => e = .returned (.string (trimF s)) ∧ Ext w w' := by
  go_enter Tryd.func47, Tryd.ntmps47
  go_wp2_with fail
  go_loopw [0] (fun v wr => ∃ x : ByteArray, v = .string x ∧ x.size ≤ s.size ∧ trimF x = trimF s ∧ Ext w wr) (fun v _ => lenOf' v)
  case atStart => exact ⟨s, rfl, Nat.le_refl _, rfl, Ext.refl _⟩
  case round =>
    obtain ⟨x, rfl, hx, ht, hbr⟩ := hrel
    have Ht := Lib.hid ht; clear ht
    rcases Nat.eq_zero_or_pos x.size with h0 | h0
    · have hfr := Lib.hid (@front_no x (fun h => by omega))
      go_wp2_with fail
      all_goals
       skip
       go_loopw [0] (fun v wr => ∃ y : ByteArray, v = .string y ∧ y.size ≤ s.size ∧ front y ∧ trimF y = trimF s ∧ Ext w wr) (fun v _ => lenOf' v)
       case atStart => exact ⟨x, rfl, hx, hfr.out, Ht.out, hbr⟩
       case round =>
         obtain ⟨y, rfl, hy, hf2, ht2, hbr2⟩ := hrel
         have Ht2 := Lib.hid ht2; clear ht2
         have Hf2 := Lib.hid hf2; clear hf2
         rcases Nat.eq_zero_or_pos y.size with h1 | h1
         · have He := Lib.hid (trim_end Hf2.out (fun j h => by omega))
           go_wp2_with fail
           go_ret
           exact ⟨congrArg (fun x => Ending.returned (.string x)) (He.out.symm.trans Ht2.out), hbr2⟩
         · obtain ⟨j, hj⟩ : ∃ j, y.size = j + 1 := ⟨y.size - 1, by omega⟩
           have hji : ((y.size : Int) - 1) = (j : Int) := by omega
           have Hb := Lib.hid (@trim_back y j hj)
           have Hby := Lib.hid (@bl_yes (y[j]'(by omega)))
           have Hbn := Lib.hid (@bl_no (y[j]'(by omega)))
           have He := Lib.hid (trim_end1 Hf2.out hj)
           have hsz : (y.extract 0 j).size = j := by rw [ByteArray.size_extract]; omega
           have Hsz := Lib.hid hsz; clear hsz
           go_wp2_with fail
           all_goals first
             | (have hc := Hby.out (by (try simp only [beq_iff_eq, beq_eq_false_iff_ne, ne_eq] at *); omega)
                go_roundw
                case rel => exact ⟨y.extract 0 j, rfl, by have := Hsz.out; omega, front_take Hf2.out, (Hb.out hc).trans Ht2.out, hbr2⟩
                case measure => show (y.extract 0 j).size < y.size; have := Hsz.out; omega)
             | (have hc := Hbn.out (by (try simp only [beq_iff_eq, beq_eq_false_iff_ne, ne_eq] at *); omega)
                go_ret
                exact ⟨congrArg (fun x => Ending.returned (.string x)) ((He.out hc).symm.trans Ht2.out), hbr2⟩)
    · have Hf := Lib.hid (@trim_front x h0)
      have Hfn := Lib.hid (fun (h : bl x[0] = false) => @front_no x (fun _ => h))
      have Hby := Lib.hid (@bl_yes x[0])
      have Hbn := Lib.hid (@bl_no x[0])
      go_wp2_with fail
      all_goals first
        | (have hc := Hby.out (by (try simp only [beq_iff_eq, beq_eq_false_iff_ne, ne_eq] at *); omega)
           have hsz : (x.extract 1 x.size).size = x.size - 1 := by rw [ByteArray.size_extract]; omega
           go_roundw
           case rel => exact ⟨x.extract 1 x.size, rfl, by omega, (Hf.out hc).trans Ht.out, hbr⟩
           case measure => show (x.extract 1 x.size).size < x.size; omega)
        | (have hc := Hbn.out (by (try simp only [beq_iff_eq, beq_eq_false_iff_ne, ne_eq] at *); omega)
           have hfr := Lib.hid (Hfn.out hc)
           rename_i g1 g2 g3 g4; clear g1 g2 hc Hby Hbn Hf Hfn
           go_loopw [0] (fun v wr => ∃ y : ByteArray, v = .string y ∧ y.size ≤ s.size ∧ front y ∧ trimF y = trimF s ∧ Ext w wr) (fun v _ => lenOf' v)
           case atStart => exact ⟨x, rfl, hx, hfr.out, Ht.out, hbr⟩
           case round =>
             obtain ⟨y, rfl, hy, hf2, ht2, hbr2⟩ := hrel
             have Ht2 := Lib.hid ht2; clear ht2
             have Hf2 := Lib.hid hf2; clear hf2
             rcases Nat.eq_zero_or_pos y.size with h1 | h1
             · have He := Lib.hid (trim_end Hf2.out (fun j h => by omega))
               go_wp2_with fail
               go_ret
               exact ⟨congrArg (fun x => Ending.returned (.string x)) (He.out.symm.trans Ht2.out), hbr2⟩
             · obtain ⟨j, hj⟩ : ∃ j, y.size = j + 1 := ⟨y.size - 1, by omega⟩
               have hji : ((y.size : Int) - 1) = (j : Int) := by omega
               have Hb := Lib.hid (@trim_back y j hj)
               have Hby := Lib.hid (@bl_yes (y[j]'(by omega)))
               have Hbn := Lib.hid (@bl_no (y[j]'(by omega)))
               have He := Lib.hid (trim_end1 Hf2.out hj)
               have hsz : (y.extract 0 j).size = j := by rw [ByteArray.size_extract]; omega
               have Hsz := Lib.hid hsz; clear hsz
               go_wp2_with fail
               all_goals first
                 | (have hc := Hby.out (by (try simp only [beq_iff_eq, beq_eq_false_iff_ne, ne_eq] at *); omega)
                    go_roundw
                    case rel => exact ⟨y.extract 0 j, rfl, by have := Hsz.out; omega, front_take Hf2.out, (Hb.out hc).trans Ht2.out, hbr2⟩
                    case measure => show (y.extract 0 j).size < y.size; have := Hsz.out; omega)
                 | (have hc := Hbn.out (by (try simp only [beq_iff_eq, beq_eq_false_iff_ne, ne_eq] at *); omega)
                    go_ret
                    exact ⟨congrArg (fun x => Ending.returned (.string x)) ((He.out hc).symm.trans Ht2.out), hbr2⟩))
end Go.Proofs.YtaebbnadmfbdjaaDoor
