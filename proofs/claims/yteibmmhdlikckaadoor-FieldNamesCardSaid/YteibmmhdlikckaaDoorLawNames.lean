
/- FieldNames returns true. -/
import Derived.Test.YteibmmhdlikckaaDoorNV
set_option linter.unusedSimpArgs false
set_option linter.unusedVariables false
namespace Go.Proofs.YteibmmhdlikckaaDoor
open Go.RowKit

set_option maxHeartbeats 1000000 in
theorem law_FieldNames (s : ByteArray) (w : World) (hs : s.size ≤ 4611686018427387904) :
    Calls Tryd.prog 3 #[.string s] w fun e w' => e = .returned (.bool true) ∧ Ext w w' := by
  go_enter Tryd.func3, Tryd.ntmps3
  go_wp2_with fail
  refine (law_awake _).mono ?_; rintro e w1 ⟨rfl, hb1⟩
  by_cases hsm : s.size > 3000
  · go_wp2_with fail
    refine (law_awake _).mono ?_; rintro e w3 ⟨rfl, hb3⟩
    go_wp2_with fail
    go_ret
    exact ⟨rfl, hb1.trans hb3⟩
  · go_wp2_with fail
    refine (field_Name s _ hs).mono ?_; rintro e w2 ⟨rfl, hb2⟩
    go_wp2_with fail
    refine (field_Value s _ hs).mono ?_; rintro e w3 ⟨rfl, hb3⟩
    go_wp2_with fail
    refine (ref_Name s _ hs).mono ?_; rintro e w4 ⟨rfl, hb4⟩
    go_wp2_with fail
    refine (ref_Value s _ hs).mono ?_; rintro e w5 ⟨rfl, hb5⟩
    have hn := nameE_lt s; have hv := valueE_lt s
    generalize nameE s = ne at *
    generalize valueE s = ve at *
    generalize nameS s = ns
    generalize valueS s = vs
    generalize hN : errV ne = NE
    generalize hV : errV ve = VE
    have h1 : (ns.toList == ns.toList) = true := by simp
    have h2 : (vs.toList == vs.toList) = true := by simp
    go_wp2_with fail
    subst hN
    refine (base_Num ne (by omega) _).mono ?_; rintro e w6 ⟨rfl, hb6⟩
    go_wp2_with fail
    subst hV
    refine (base_Num ve (by omega) _).mono ?_; rintro e w7 ⟨rfl, hb7⟩
    go_wp2_with fail
    go_ret
    exact ⟨rfl, (((((hb1.trans hb2).trans hb3).trans hb4).trans hb5).trans hb6).trans hb7⟩
end Go.Proofs.YteibmmhdlikckaaDoor
