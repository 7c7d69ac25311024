
/- Listed variables: httpdate's tables out of a row's condition. No condition. -/
import Derived.Test.YtjacgdjnocpodaaGreatDoorDate1
import Derived.Test.YtjacgdjnocpodaaGreatDoorLaidG
namespace Go.Proofs.YtjacgdjnocpodaaGreatDoor
open Go.RowKit Go.ChangeShapes

set_option maxRecDepth 100000 in
/-- The three tables of httpdate, out of a row's condition. -/
theorem glH_of {W : World} {laid : List (String × DataW Unit)} (hp : (laid.all fun x => x.2.handleName?.isNone) = true) (h : laidMetH Tryz.prog laid W)
    (h1 : ("quayside/httpdate.months", Rows.laid_quayside_httpdate_months) ∈ laid) (h2 : ("quayside/httpdate.weekdays", Rows.laid_quayside_httpdate_weekdays) ∈ laid) (h3 : ("quayside/httpdate.lengths", Rows.laid_quayside_httpdate_lengths) ∈ laid) : GlH W :=
  ⟨tab_rd (l := moL) (fun s => .lit (.string s.data.toList)) Value.string hp h h1 (by kernel_rfl) (by kernel_rfl) Tryz.underlying91 (by kernel_rfl) (by kernel_rfl) (one_str Tryz.underlying9) rfl,
   tab_rd (l := wdL) (fun s => .lit (.string s.data.toList)) Value.string hp h h2 (by kernel_rfl) (by kernel_rfl) Tryz.underlying111 (by kernel_rfl) (by kernel_rfl) (one_str Tryz.underlying9) rfl,
   tab_rd (l := leL) (fun z => .lit (.int .i64 z)) (Value.int .i64) hp h h3 (by kernel_rfl) (by kernel_rfl) Tryz.underlying121 (by kernel_rfl) (by kernel_rfl) (one_int Tryz.underlying3) rfl⟩
end Go.Proofs.YtjacgdjnocpodaaGreatDoor
