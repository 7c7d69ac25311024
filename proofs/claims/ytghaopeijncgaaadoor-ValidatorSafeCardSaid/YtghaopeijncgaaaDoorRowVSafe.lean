
/- ValidatorSafe returns true for every input, and leaves its arguments as they were. No condition. -/
import Derived.Test.YtghaopeijncgaaaDoorL10s
import Derived.Test.YtghaopeijncgaaaDoorOpenU
import Derived.Test.YtghaopeijncgaaaDoorOpenAsk
import Derived.Test.YtghaopeijncgaaaDoorLaid
import Derived.Test.YtghaopeijncgaaaDoorTie
import Derived.Test.YtghaopeijncgaaaDoorCards
import Derived.SevenTiedAt
import Derived.JoinedCond
namespace Go.Proofs.YtghaopeijncgaaaDoor.validatorSafe
open Go Go.ChangeShapes Go.WideShapes Go.ChangeAt Go.RowKit
open Go.ChangeMaps (open_string shut_string)

theorem own : ownKnob Tryd.prog.godebug = none := by kernel_rfl
theorem laidOut : laidOutB Tryd.prog = true := by kernel_rfl
theorem refTwo : TwoStr Tryd.prog 79 9 := ⟨_, _, Tryd.underlying79, rfl, rfl, rfl, rfl, Tryd.underlying9, by kernel_rfl, by kernel_rfl⟩

set_option maxRecDepth 100000 in
theorem reads (os : Os) {H : Type} (enc : TypeId × Value → H) : ∃ places, DataW.whole enc Tryd.prog ((World.laidAll Tryd.prog os Rows.validatorSafeRow.laid).forCall (fun _ _ => 0) ⟨#[], #[.agg #[.string .empty, .slice none 0 0, .bool false, .bool false, .bool false, .bool false, .string .empty, .int .i64 0]], []⟩).memory Tryd.f10.params.toList Rows.validatorSafeSpec.vars false (#[.agg #[.string .empty, .slice none 0 0, .bool false, .bool false, .bool false, .bool false, .string .empty, .int .i64 0]] : Array Value).toList 8 = some ([.agg [.lit (.string []), .nil, .agg [.lit (.bool false), .lit (.bool false), .lit (.bool false), .agg [.lit (.bool false), .lit (.string [])], .lit (.int .i64 0)]]], [], places) :=
  ⟨[], by kernel_rfl⟩
set_option maxRecDepth 100000 in
theorem lifted (os : Os) (started : os.Started) (H : Type) (enc : TypeId × Value → H) (F : Stop.Interp) :
    ReturnsInHanded {} Tryd.checked os 10 .any ((OpenSpec.ofChange Rows.validatorSafeSpec).preRow enc Tryd.prog Tryd.f10 Rows.validatorSafeRow.domain false Rows.validatorSafeRow.laid) (((OpenSpec.ofChange Rows.validatorSafeSpec).at F).post enc Tryd.prog Tryd.f10 false true false false) := by
  obtain ⟨places, hx⟩ := reads os enc
  refine returnsInHanded_of_row (C := Tryd.checked) (s := (OpenSpec.ofChange Rows.validatorSafeSpec)) own started (by kernel_rfl) Tryd.func10
    (witU (enc := enc) (C := Tryd.checked) #[.agg #[.string .empty, .slice none 0 0, .bool false, .bool false, .bool false, .bool false, .string .empty, .int .i64 0]] (by kernel_rfl) (by kernel_rfl) (by kernel_rfl)
      (OpenSpec.preRow_of_cond 8 hx (by kernel_rfl) (fun k hk => by cases hk) (by kernel_rfl)
        (by rw [MakeChecks.laidMetH_plain _ _ _ (by kernel_rfl)]; exact laidMet_laidAll _ (by kernel_rfl) (by kernel_rfl)))) ?_
  intro W base args ds gs before hval0 hW hcnd hcond hsz0 hL hsh _
  have hval : ∀ (j : Nat) t v, Tryd.f10.params[j]? = some t → args[j]? = some v → Value.okWide Tryd.prog W .any base t v := hval0
  have hsz : (DataW.weightsEach Tryd.prog (Tryd.f10.params.toList ++ Rows.validatorSafeSpec.plain.varTypes Tryd.prog) (ds ++ gs)).all (· ≤ reachBytes) = true := hsz0
  have hW' := hW
  obtain ⟨p, q, hA0, hV, rfl, hfz, hnd⟩ := hW
  have hA : DataW.TrodAll enc Tryd.prog W 0 (fun _ => true) true Tryd.f10.params.toList args.toList ds p := hA0
  rw [Tryd.params10] at hA hval hsz
  obtain ⟨v0, vs0, d0, ds0, p0, q0, hargs, rfl, rfl, h0, r0⟩ := trodAll_cons hA
  obtain ⟨rfl, rfl, rfl⟩ := trodAll_nil r0
  obtain rfl : args = #[v0] := by cases args; simp_all
  obtain ⟨rfl, rfl⟩ := trodVars_none hV
  have lt0 : ∀ x ∈ p0, x.block < W.heap.size := by obtain ⟨m, hm⟩ := h0; exact DataW.trod_lt m _ _ _ hm
  obtain ⟨m0, A0, n0, c0, fd0, fp0, ex0, ht0, hm0, tw0, tt0, md0, rfl, rfl, _, htr0, _, _⟩ := open_Ask (hval 0 54 v0 rfl rfl) h0
  obtain ⟨L0, hL0, hn0, hc0, hw0⟩ := open_flds Tryd.underlying50 refTwo htr0
  obtain ⟨hB0, hy0⟩ := hw0 140737488351232 (fun x hx => weights_one hsz (j := 0) rfl rfl x (by simp only [DataW.weights, Tryd.underlying54]; exact DataW.weights_mem_each (j := 1) rfl rfl _ hx))
  unfold maxLen at hn0
  have hg : GlH W := glH_of (laid := Rows.validatorSafeRow.laid) (by kernel_rfl) hL (by repeat (first | exact List.Mem.head _ | apply List.Mem.tail)) (by repeat (first | exact List.Mem.head _ | apply List.Mem.tail)) (by repeat (first | exact List.Mem.head _ | apply List.Mem.tail))
  clear hA0 hval0
  refine (safe_walk m0 A0 n0 c0 L0 ⟨ex0, ht0, hm0, tw0, tt0, md0⟩ W hL0 hn0 hB0 hg).mono fun e W' ⟨he, bel⟩ => ?_
  subst he
  exact ⟨_, rfl, _, _, _, [], _, [], hW', trodAll_mk1 (shut_bool Tryd.underlying4 _), trodAll_cons_mk (Below.trod laidOut (by kernel_rfl) (of_decide_eq_true (by kernel_rfl)) h0 bel.below lt0) trodAll_mk0, rfl, bel.below.frame _, fun h => by cases h⟩

theorem row_holds : Rows.ValidatorSafeSaid :=
  OpenClaim.holds_of_cond 10 Tryd.f10 rfl rfl rfl rfl rfl rfl rfl ⟨rfl, rfl, rfl, rfl, rfl⟩ rfl rfl rfl rfl rfl (by kernel_rfl) Tryd.func10 (by kernel_rfl)
    (of_decide_eq_true (by kernel_rfl)) (by unfold Func.isWrapper; first | (rw [if_pos (by decide +kernel)]; kernel_rfl) | (rw [if_neg (by decide +kernel)]; exact ⟨rfl, rfl⟩))
    (fun os started H enc _ F => by rw [OpenClaim.pre_eq_preRow]; exact lifted os started H enc F)

theorem proved : Rows.ValidatorSafeCardSaid :=
  Claim7.holds_tied_plain_at .later [] [.data, .data, .data, .data, .pinned] true (true, "c60b048320ee3051112bb1e679ca3e117a3ccf87cd2c72700f9578b8f2a5fab8") true row_holds (fun _ h => by cases h) (by kernel_rfl) (fun _ h => by cases h) validatorSafe_row_tie rfl ⟨rfl, rfl⟩ (by kernel_rfl) rfl
    (fun f fn hf hfn => by
      obtain rfl : f = 10 := Option.some.inj ((show Tryd.prog.funcNamed Rows.validatorSafeRow.func = some 10 by kernel_rfl).symm.trans hf) |>.symm
      obtain rfl : fn = Tryd.f10 := (Option.some.inj (Tryd.func10.symm.trans hfn)).symm
      exact ⟨by kernel_rfl, fun j t ht => by
        rw [Tryd.params10] at ht
        have hm : t ∈ [54] := by simpa using Array.mem_of_getElem? ht
        have hall : ([54].all fun u => !Tryd.prog.wantsStandIn u) = true := by kernel_rfl
        exact (show Tryd.prog.wantsStandIn t = false by simpa using List.all_eq_true.1 hall t hm)⟩)
    (by kernel_rfl)
#print axioms proved
end Go.Proofs.YtghaopeijncgaaaDoor.validatorSafe
