/- StorableAuthorizes returns true for every input of bulk at most 1048576, and leaves its arguments as they were. No condition but that bound. -/
import Derived.Test.YtphgaommokgfcaaDoorJ5
import Derived.Test.YtphgaommokgfcaaDoorTie
import Derived.Test.YtphgaommokgfcaaDoorCards
import Derived.SevenTiedAt
import Derived.JoinedCond
namespace Go.Proofs.YtphgaommokgfcaaDoor.storableAuthorizes
open Go Go.ChangeShapes Go.WideShapes Go.ChangeAt Go.RowKit
open Go.ChangeMaps (open_string shut_string)

theorem own : ownKnob Tryd.prog.godebug = none := by kernel_rfl
theorem laidOut : laidOutB Tryd.prog = true := by kernel_rfl
theorem refTwo : TwoStr Tryd.prog 28 9 := ⟨_, _, Tryd.underlying28, rfl, rfl, rfl, rfl, Tryd.underlying9, by kernel_rfl, by kernel_rfl⟩

set_option maxRecDepth 100000 in
theorem reads (os : Os) {H : Type} (enc : TypeId × Value → H) : ∃ places, DataW.whole enc Tryd.prog ((World.laidAll Tryd.prog os Rows.storableAuthorizesUptoRow.laid).forCall (fun _ _ => 0) ⟨#[], #[.agg #[.string .empty, .slice none 0 0, .slice none 0 0, .int .i64 0], .int .u8 0], []⟩).memory Tryd.f4.params.toList Rows.storableAuthorizesSpec.vars false (#[.agg #[.string .empty, .slice none 0 0, .slice none 0 0, .int .i64 0], .int .u8 0] : Array Value).toList 8 = some ([.agg [.lit (.string []), .nil, .nil, .lit (.int .i64 0)], .lit (.int .u8 0)], [], places) :=
  ⟨[], by kernel_rfl⟩
set_option maxRecDepth 100000 in
theorem lifted (os : Os) (started : os.Started) (H : Type) (enc : TypeId × Value → H) (F : Stop.Interp) :
    ReturnsInHanded {} Tryd.checked os 4 .any ((Rows.OpenSpec.upto Rows.storableAuthorizesSpec).preRow enc Tryd.prog Tryd.f4 Rows.storableAuthorizesUptoRow.domain false Rows.storableAuthorizesUptoRow.laid) (((Rows.OpenSpec.upto Rows.storableAuthorizesSpec).at F).post enc Tryd.prog Tryd.f4 false true false false) := by
  obtain ⟨places, hx⟩ := reads os enc
  refine returnsInHanded_of_row (C := Tryd.checked) (s := (Rows.OpenSpec.upto Rows.storableAuthorizesSpec)) own started (by kernel_rfl) Tryd.func4
    (witU (enc := enc) (C := Tryd.checked) #[.agg #[.string .empty, .slice none 0 0, .slice none 0 0, .int .i64 0], .int .u8 0] (by kernel_rfl) (by kernel_rfl) (by kernel_rfl)
      (OpenSpec.preRow_of_cond 8 hx (by kernel_rfl) (fun k hk => by cases hk; kernel_rfl) (by kernel_rfl)
        (by rw [MakeChecks.laidMetH_plain _ _ _ (by kernel_rfl)]; exact laidMet_laidAll _ (by kernel_rfl) (by kernel_rfl)))) ?_
  intro W base args ds gs before hval0 hW hcnd hcond hsz0 hL hsh _
  have hval : ∀ (j : Nat) t v, Tryd.f4.params[j]? = some t → args[j]? = some v → Value.okWide Tryd.prog W .any base t v := hval0
  have hsz : (DataW.weightsEach Tryd.prog (Tryd.f4.params.toList ++ Rows.storableAuthorizesSpec.plain.varTypes Tryd.prog) (ds ++ gs)).all (· ≤ reachBytes) = true := hsz0
  have hk := bulk_of (hcond _ rfl)
  have hW' := hW
  obtain ⟨p, q, hA0, hV, rfl, hfz, hnd⟩ := hW
  have hA : DataW.TrodAll enc Tryd.prog W 0 (fun _ => true) true Tryd.f4.params.toList args.toList ds p := hA0
  rw [Tryd.params4] at hA hval hsz
  obtain ⟨v0, vs0, d0, ds0, p0, q0, hargs, rfl, rfl, h0, r0⟩ := trodAll_cons hA
  obtain ⟨v1, vs1, d1, ds1, p1, q1, rfl, rfl, rfl, h1, r1⟩ := trodAll_cons r0
  obtain ⟨rfl, rfl, rfl⟩ := trodAll_nil r1
  obtain rfl : args = #[v0, v1] := by cases args; simp_all
  obtain ⟨rfl, rfl⟩ := trodVars_none hV
  simp only [List.append_nil, Rows.uptoBulkAll] at hk
  have lt0 : ∀ x ∈ p0, x.block < W.heap.size := by obtain ⟨m, hm⟩ := h0; exact DataW.trod_lt m _ _ _ hm
  obtain ⟨me0, Aq0, nq0, cq0, fq0, pq0, Ar0, nr0, cr0, fr0, pr0, ss0, rfl, rfl, hme0, htq0, htr0, _⟩ := open_Case (hval 0 24 v0 rfl rfl) h0
  obtain ⟨Lq0, hLq0, hnq0, hcq0, hbq0⟩ := open_fldsU Tryd.underlying22 refTwo htq0
  obtain ⟨Lr0, hLr0, hnr0, hcr0, hbr0⟩ := open_fldsU Tryd.underlying22 refTwo htr0
  simp only [Rows.uptoBulk, Rows.uptoBulkAll] at hk
  obtain ⟨x1, rfl, rfl, rfl, wx1⟩ := open_int Tryd.underlying5 (hval 1 5 v1 rfl rfl) h1
  have hg : GlH W := glH_of (laid := Rows.storableAuthorizesUptoRow.laid) (by kernel_rfl) hL (by repeat (first | exact List.Mem.head _ | apply List.Mem.tail)) (by repeat (first | exact List.Mem.head _ | apply List.Mem.tail)) (by repeat (first | exact List.Mem.head _ | apply List.Mem.tail))
  clear hA0 hval0
  refine (authorizes_walk me0 Aq0 nq0 cq0 Lq0 Ar0 nr0 cr0 Lr0 ss0 x1 W hLq0 hLr0 (by omega) (by omega) hg (gl_of hsh) (u8_wf wx1).1 (u8_wf wx1).2).mono fun e W' ⟨he, bel⟩ => ?_
  subst he
  exact ⟨_, rfl, _, _, _, [], _, [], hW', trodAll_mk1 (shut_bool Tryd.underlying4 _), trodAll_cons_mk (Below.trod laidOut (by kernel_rfl) (of_decide_eq_true (by kernel_rfl)) h0 bel.below lt0) (trodAll_cons_mk (shut_int Tryd.underlying5 wx1) trodAll_mk0), rfl, bel.below.frame _, fun h => by cases h⟩

theorem row_holds : Rows.StorableAuthorizesUptoSaid :=
  OpenClaim.holds_of_cond 4 Tryd.f4 rfl rfl rfl rfl rfl rfl rfl ⟨rfl, rfl, rfl, rfl, rfl⟩ rfl rfl rfl rfl rfl (by kernel_rfl) Tryd.func4 (by kernel_rfl)
    (of_decide_eq_true (by kernel_rfl)) (by unfold Func.isWrapper; first | (rw [if_pos (by decide +kernel)]; kernel_rfl) | (rw [if_neg (by decide +kernel)]; exact ⟨rfl, rfl⟩))
    (fun os started H enc _ F => by rw [OpenClaim.pre_eq_preRow]; exact lifted os started H enc F)

theorem proved : Rows.StorableAuthorizesUptoCardSaid :=
  Claim7.holds_tied_plain_at .later [] [.data, .data, .data, .data, .pinned] true (true, "dfa17c8009355ad863d376710408f51ae779033b2d1029f7198b1a1b76c82ed2") true row_holds (fun _ h => by cases h) (by kernel_rfl) (fun _ h => by cases h) storableAuthorizesUpto_row_tie rfl ⟨rfl, rfl⟩ (by kernel_rfl) rfl
    (fun f fn hf hfn => by
      obtain rfl : f = 4 := Option.some.inj ((show Tryd.prog.funcNamed Rows.storableAuthorizesUptoRow.func = some 4 by kernel_rfl).symm.trans hf) |>.symm
      obtain rfl : fn = Tryd.f4 := (Option.some.inj (Tryd.func4.symm.trans hfn)).symm
      exact ⟨by kernel_rfl, fun j t ht => by
        rw [Tryd.params4] at ht
        have hm : t ∈ [24, 5] := by simpa using Array.mem_of_getElem? ht
        have hall : ([24, 5].all fun u => !Tryd.prog.wantsStandIn u) = true := by kernel_rfl
        exact (show Tryd.prog.wantsStandIn t = false by simpa using List.all_eq_true.1 hall t hm)⟩)
    (by kernel_rfl)
#print axioms proved
end Go.Proofs.YtphgaommokgfcaaDoor.storableAuthorizes
