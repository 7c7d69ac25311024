
/- The walks of WriteTag, Write, the comparisons of tags, tag, same, quaysidebase.Is. -/
import Derived.Test.YtghaopeijncgaaaDoorTag
import Derived.Test.YtghaopeijncgaaaDoorNum
namespace Go.Proofs.YtghaopeijncgaaaDoor
open Go.RowKit

def qS : ByteArray := ⟨#[34]⟩
def wqS : ByteArray := ⟨#[87, 47, 34]⟩
/-- The text of a tag. -/
def wrS (wk : Bool) (t : ByteArray) : ByteArray := (if wk then wqS else qS) ++ t ++ qS
def wrO (wk : Bool) (t : ByteArray) : Option ByteArray := if rightS t then some (wrS wk t) else none
def eqT (a b : ByteArray) : Bool := a.toList == b.toList

set_option maxHeartbeats 1000000 in
theorem base_Is (n k : Nat) (hn : n < 1000) (hk : 0 < k) (hk2 : k < 1000) (w : World) :
    Calls Tryd.prog 15 #[errV n, .int .i64 (k : Nat)] w fun e w' => e = .returned (.bool (decide (n = k))) ∧ Ext w w' := by
  go_enter Tryd.func15, Tryd.ntmps15
  go_wp2_with fail
  refine (base_Num n hn _).mono ?_; rintro e w1 ⟨rfl, hb1⟩
  have hk0 : ((k : Int) != 0) = true := by rw [bne_iff_ne]; omega
  by_cases h : n = k
  · subst h
    go_wp2_with fail
    go_ret
    exact ⟨congrArg (fun x => Ending.returned (.bool x)) (by simp), hb1⟩
  · have hne : ((n : Int) == (k : Int)) = false := by rw [beq_eq_false_iff_ne]; omega
    go_wp2_with fail
    go_ret
    exact ⟨congrArg (fun x => Ending.returned (.bool x)) (by simp [h]), hb1⟩


set_option maxHeartbeats 1000000 in
theorem val_Strong (wa wb : Bool) (a b : ByteArray) (w : World) :
    Calls Tryd.prog 19 #[.agg #[.bool wa, .string a], .agg #[.bool wb, .string b]] w fun e w' => e = .returned (.bool (!wa && !wb && eqT a b)) ∧ Ext w w' := by
  have he := Lib.hid (show eqT a b = (a.toList == b.toList) from rfl)
  generalize eqT a b = q at *
  cases wa <;> cases wb <;> cases q
  all_goals
    have he2 := he.out.symm
    go_enter Tryd.func19, Tryd.ntmps19
    go_wp2_with fail
    go_ret
    exact ⟨rfl, ((Ext.refl w).alloc _).alloc _⟩


set_option maxHeartbeats 1000000 in
theorem val_Weak (wa wb : Bool) (a b : ByteArray) (w : World) :
    Calls Tryd.prog 20 #[.agg #[.bool wa, .string a], .agg #[.bool wb, .string b]] w fun e w' => e = .returned (.bool (eqT a b)) ∧ Ext w w' := by
  have he := Lib.hid (show eqT a b = (a.toList == b.toList) from rfl)
  generalize eqT a b = q at *
  cases wa <;> cases wb <;> cases q
  all_goals
    have he2 := he.out.symm
    go_enter Tryd.func20, Tryd.ntmps20
    go_wp2_with fail
    go_ret
    exact ⟨rfl, ((Ext.refl w).alloc _).alloc _⟩


set_option maxHeartbeats 1000000 in
theorem ref_Strong (wa wb : Bool) (a b : ByteArray) (w : World) :
    Calls Tryd.prog 49 #[.agg #[.bool wa, .string a], .agg #[.bool wb, .string b]] w fun e w' => e = .returned (.bool (!wa && !wb && eqT a b)) ∧ Ext w w' := by
  have he := Lib.hid (show eqT a b = (a.toList == b.toList) from rfl)
  generalize eqT a b = q at *
  cases wa <;> cases wb <;> cases q
  all_goals
    have he2 := he.out.symm
    go_enter Tryd.func49, Tryd.ntmps49
    go_wp2_with fail
    go_ret
    exact ⟨rfl, ((Ext.refl w).alloc _).alloc _⟩


set_option maxHeartbeats 1000000 in
theorem ref_Weak (wa wb : Bool) (a b : ByteArray) (w : World) :
    Calls Tryd.prog 68 #[.agg #[.bool wa, .string a], .agg #[.bool wb, .string b]] w fun e w' => e = .returned (.bool (eqT a b)) ∧ Ext w w' := by
  have he := Lib.hid (show eqT a b = (a.toList == b.toList) from rfl)
  generalize eqT a b = q at *
  cases wa <;> cases wb <;> cases q
  all_goals
    have he2 := he.out.symm
    go_enter Tryd.func68, Tryd.ntmps68
    go_wp2_with fail
    go_ret
    exact ⟨rfl, ((Ext.refl w).alloc _).alloc _⟩


set_option maxHeartbeats 1000000 in
theorem law_tag (wa : Bool) (a : ByteArray) (w : World) :
    Calls Tryd.prog 18 #[.agg #[.bool wa, .string a]] w fun e w' => e = .returned (.agg #[.bool wa, .string a]) ∧ Ext w w' := by
  go_enter Tryd.func18, Tryd.ntmps18
  go_wp2_with fail
  exact bodyPost_ret (v := .agg #[.bool wa, .string a]) (by simp [results, Tryd.results18, go_sem]) rfl ⟨rfl, ((Ext.refl w).alloc _).alloc _⟩

set_option maxHeartbeats 1000000 in
theorem law_same (wa : Bool) (a : ByteArray) (w : World) :
    Calls Tryd.prog 14 #[.agg #[.bool wa, .string a], .agg #[.bool wa, .string a]] w fun e w' => e = .returned (.bool true) ∧ Ext w w' := by
  have hq : (wa == wa) = true := by cases wa <;> rfl
  have hq2 : (a.toList == a.toList) = true := eqS_iff.2 rfl
  go_enter Tryd.func14, Tryd.ntmps14
  go_wp2_with fail
  go_ret
  exact ⟨rfl, ((Ext.refl w).alloc _).alloc _⟩

def wrE (o : Option ByteArray) : Nat := if o.isSome then 0 else 2

set_option maxHeartbeats 1000000 in
theorem val_WriteTag (wa : Bool) (a : ByteArray) (w : World) (hs : a.size ≤ 4611686018427387904) :
    Calls Tryd.prog 21 #[.agg #[.bool wa, .string a]] w fun e w' => e = .returned (.tuple #[.string ((wrO wa a).getD ⟨#[]⟩), errV (wrE (wrO wa a))]) ∧ Ext w w' := by
  have h1 : ∀ w, (Op.stringOp .add qS a).run Tryd.prog w = .ok (.string (qS ++ a)) w := fun w => run_string_add_sum w _ _ (by rw [show qS.size = 1 from rfl]; omega)
  have h2 : ∀ w, (Op.stringOp .add (qS ++ a) qS).run Tryd.prog w = .ok (.string (qS ++ a ++ qS)) w := fun w => run_string_add_sum w _ _ (by rw [ByteArray.size_append, show qS.size = 1 from rfl]; omega)
  have h3 : ∀ w, (Op.stringOp .add wqS a).run Tryd.prog w = .ok (.string (wqS ++ a)) w := fun w => run_string_add_sum w _ _ (by rw [show wqS.size = 3 from rfl]; omega)
  have h4 : ∀ w, (Op.stringOp .add (wqS ++ a) qS).run Tryd.prog w = .ok (.string (wqS ++ a ++ qS)) w := fun w => run_string_add_sum w _ _ (by rw [ByteArray.size_append, show wqS.size = 3 from rfl, show qS.size = 1 from rfl]; omega)
  unfold qS at h1 h2 h4
  unfold wqS at h3 h4
  go_enter Tryd.func21, Tryd.ntmps21
  go_wp2_with fail
  refine (val_plain a _ hs).mono ?_; rintro e w1 ⟨rfl, rfl⟩
  cases hr : rightS a
  · have HN := Lib.hid (show wrO wa a = none by unfold wrO; rw [hr]; rfl)
    go_wp2_with fail
    go_ret2
    exact ⟨by rw [HN.out]; rfl, (Ext.refl w).alloc _⟩
  · have HY := Lib.hid (show wrO wa a = some (wrS wa a) by unfold wrO; rw [hr]; rfl)
    cases wa
    · go_wp2_with fail
      go_ret2
      exact ⟨by rw [HY.out]; rfl, (Ext.refl w).alloc _⟩
    · go_wp2_with fail
      go_ret2
      exact ⟨by rw [HY.out]; rfl, (Ext.refl w).alloc _⟩


set_option maxHeartbeats 1000000 in
theorem ref_Write (wa : Bool) (a : ByteArray) (w : World) (hs : a.size ≤ 4611686018427387904) :
    Calls Tryd.prog 22 #[.agg #[.bool wa, .string a]] w fun e w' => e = .returned (.tuple #[.string ((wrO wa a).getD ⟨#[]⟩), .bool (wrO wa a).isSome]) ∧ Ext w w' := by
  have h1 : ∀ w, (Op.stringOp .add qS a).run Tryd.prog w = .ok (.string (qS ++ a)) w := fun w => run_string_add_sum w _ _ (by rw [show qS.size = 1 from rfl]; omega)
  have h2 : ∀ w, (Op.stringOp .add (qS ++ a) qS).run Tryd.prog w = .ok (.string (qS ++ a ++ qS)) w := fun w => run_string_add_sum w _ _ (by rw [ByteArray.size_append, show qS.size = 1 from rfl]; omega)
  have h3 : ∀ w, (Op.stringOp .add wqS a).run Tryd.prog w = .ok (.string (wqS ++ a)) w := fun w => run_string_add_sum w _ _ (by rw [show wqS.size = 3 from rfl]; omega)
  have h4 : ∀ w, (Op.stringOp .add (wqS ++ a) qS).run Tryd.prog w = .ok (.string (wqS ++ a ++ qS)) w := fun w => run_string_add_sum w _ _ (by rw [ByteArray.size_append, show wqS.size = 3 from rfl, show qS.size = 1 from rfl]; omega)
  unfold qS at h1 h2 h4
  unfold wqS at h3 h4
  go_enter Tryd.func22, Tryd.ntmps22
  go_wp2_with fail
  refine (ref_Right a _ hs).mono ?_; rintro e w1 ⟨rfl, rfl⟩
  cases hr : rightS a
  · have HN := Lib.hid (show wrO wa a = none by unfold wrO; rw [hr]; rfl)
    go_wp2_with fail
    go_ret2
    exact ⟨by rw [HN.out]; rfl, (Ext.refl w).alloc _⟩
  · have HY := Lib.hid (show wrO wa a = some (wrS wa a) by unfold wrO; rw [hr]; rfl)
    cases wa
    · go_wp2_with fail
      go_ret2
      exact ⟨by rw [HY.out]; rfl, (Ext.refl w).alloc _⟩
    · go_wp2_with fail
      go_ret2
      exact ⟨by rw [HY.out]; rfl, (Ext.refl w).alloc _⟩

end Go.Proofs.YtghaopeijncgaaaDoor
