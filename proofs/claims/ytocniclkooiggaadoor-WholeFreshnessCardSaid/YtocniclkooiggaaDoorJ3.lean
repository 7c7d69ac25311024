/- The walks of policy: ticks, fresh, Judge, OnError, Limit. The walks of field.Size, quaysidelaw02.awake; FieldGets returns true. The walks of field.Remove, quaysideref02.Remove, slices.Clone, slices.Clip, field.Add, quaysideref02.Add. The walk of directive.normal. The walks of the law package's large, awake, Stored, rank, and of quaysidelaw13.Times. The library's own variable that every call of the package needs, out of a world's shape. The walks of the law package's helpers: Fields, Plain; equality of directives. The walk of the law package's awake. The walks of quaysideref11.time, Normal, present; directive.Merge and quaysideref11.Merge. The walks of quaysideref11.Normal and Merge. The walks of the law package's Program and of DirectiveMerges: it returns true. A drawn region by an invariant: whatever order is picked, each listed operation keeps it. Plain facts on regions, no program in sight. The walk of PolicyStricter: it returns true. Arguments opened: a slice of pairs of strings, a slice of strings, as lists. Plain facts on readings. Arguments opened, with their bulk: a slice of strings, a slice of pairs of strings; the witness of a row that lists variables. Plain facts on readings. Struct arguments opened: directives. Plain facts on readings. A slice of pairs of strings, opened, with its bulk. Plain facts on readings. Struct arguments opened: a stored response, a moment, a response in true time. Plain facts on readings. Listed variables: from a row's condition to what the walks ask of them. No condition. Listed variables: httpdate's tables out of a row's condition. No condition. -/
import Derived.Test.YtocniclkooiggaaDoorJ2
import Derived.Lib.LazyBuf
import Derived.Deep.DeepHandedRow
import Derived.Laws.StructEq
import Derived.KernelRfl
import Derived.Deep.RegionHeld3
import Derived.Deep.RegionHeld
import Derived.ProofKit
import Derived.SizedLaws
import Derived.Deep.Slices
import Derived.Deep.Fields
import Derived.ChangeSame
import Derived.ShutString
import Derived.OpenShut
import Derived.Test.YtocniclkooiggaaDoorRows
import Derived.SliceStrings
import Derived.Lay
import Derived.LaidOnce
import Derived.LaidMore
import Derived.Lib.SmallJoins
import Derived.MakeChecks
import Derived.FnData
set_option linter.unusedSimpArgs false
set_option linter.unusedVariables false
namespace Go.Proofs.YtocniclkooiggaaDoor
open Go.RowKit

/-- One of the first three verdicts, or 0. -/
def fvS (hi life wh ma mf ms : Int) (mr sa : Bool) : Int :=
  if hi < life ∧ (ma < 0 ∨ hi < 1000 * ma) ∧ (mf < 0 ∨ hi + 1000 * mf < life) then 1
  else if hi < life + wh ∧ ma < 0 ∧ mf < 0 then 2
  else if 0 ≤ ms ∧ mf < 0 ∧ mr = false ∧ sa = false ∧ hi < life + 1000 * ms ∧ (ma < 0 ∨ hi < 1000 * ma + 1000 * ms) then 3 else 0
theorem vd_fv (us : Bool) (hi life wh ma mf ms : Int) (mr sa hv : Bool) : vdS us hi life wh ma mf ms mr sa hv = if us = true ∧ fvS hi life wh ma mf ms mr sa ≠ 0 then fvS hi life wh ma mf ms mr sa else if hv then 4 else 5 := by
  cases us
  · rw [vdS_unusable]
    rw [if_neg (c := false = true ∧ _) (fun h => Bool.noConfusion h.1)]
  · unfold vdS fvS
    simp only [true_and]
    split
    · rw [if_pos (show (1 : Int) ≠ 0 by decide)]
    · split
      · rw [if_pos (show (2 : Int) ≠ 0 by decide)]
      · split
        · rw [if_pos (show (3 : Int) ≠ 0 by decide)]
        · rw [if_neg (show ¬ (0 : Int) ≠ 0 by decide)]
section
variable {hi life wh ma mf ms : Int} {mr sa : Bool}
theorem fv1 (h : hi < life ∧ (ma < 0 ∨ hi < 1000 * ma) ∧ (mf < 0 ∨ hi + 1000 * mf < life)) : fvS hi life wh ma mf ms mr sa = 1 := if_pos h
theorem fv2 (h : ¬ (hi < life ∧ (ma < 0 ∨ hi < 1000 * ma) ∧ (mf < 0 ∨ hi + 1000 * mf < life))) (h2 : hi < life + wh ∧ ma < 0 ∧ mf < 0) : fvS hi life wh ma mf ms mr sa = 2 := by
  unfold fvS; rw [if_neg h, if_pos h2]
theorem fv3 (h : ¬ (hi < life ∧ (ma < 0 ∨ hi < 1000 * ma) ∧ (mf < 0 ∨ hi + 1000 * mf < life))) (h2 : ¬ (hi < life + wh ∧ ma < 0 ∧ mf < 0)) (h3 : 0 ≤ ms ∧ mf < 0) (h4 : mr = false) (h5 : sa = false) (h6 : hi < life + 1000 * ms ∧ (ma < 0 ∨ hi < 1000 * ma + 1000 * ms)) : fvS hi life wh ma mf ms mr sa = 3 := by
  unfold fvS; rw [if_neg h, if_neg h2, if_pos ⟨h3.1, h3.2, h4, h5, h6⟩]
theorem fv0 (h : ¬ (hi < life ∧ (ma < 0 ∨ hi < 1000 * ma) ∧ (mf < 0 ∨ hi + 1000 * mf < life))) (h2 : ¬ (hi < life + wh ∧ ma < 0 ∧ mf < 0)) (h3 : ¬ (0 ≤ ms ∧ mf < 0 ∧ hi < life + 1000 * ms ∧ (ma < 0 ∨ hi < 1000 * ma + 1000 * ms)) ∨ mr = true ∨ sa = true) : fvS hi life wh ma mf ms mr sa = 0 := by
  unfold fvS; rw [if_neg h, if_neg h2, if_neg]
  rintro ⟨a, b, c, d, e⟩
  rcases h3 with h3 | h3 | h3
  · exact h3 ⟨a, b, e⟩
  · rw [c] at h3; cases h3
  · rw [d] at h3; cases h3
end
/-- A time of a directive in ticks. -/
def tkS (n : Int) : Int := IntKind.i64.wrap (min n 2147483647 * 1000)
theorem tk_eq (n : Int) : (decide (0 ≤ n) = true ∧ 0 ≤ nmT n ∧ nmT n ≤ 2147483647 ∧ tkS n = 1000 * nmT n) ∨ (decide (0 ≤ n) = false ∧ nmT n < 0) := by
  by_cases h : 0 ≤ n
  · refine .inl ⟨decide_eq_true h, by unfold nmT; omega, by unfold nmT; omega, ?_⟩
    unfold tkS
    rw [IntWalk.i64_in _ (by omega)]
    unfold nmT; omega
  · exact .inr ⟨decide_eq_false h, by unfold nmT; omega⟩
set_option maxHeartbeats 1000000 in
theorem policy_ticks (n : Int) (w : World) : Calls Tryd.prog 50 #[.int .i64 n] w fun e w' => e = .returned (.tuple #[.int .i64 (tkS n), .bool (decide (0 ≤ n))]) ∧ w' = w := by
  go_enter Tryd.func50, Tryd.ntmps50
  go_wp2_with fail
  go_ret2
  exact ⟨ret_t (show Value.tuple #[.int .i64 (wrap64 (min n 2147483647 * 1000)), .bool (decide (0 ≤ n))] = _ by rw [← IntWalk.i64_left]; rfl), rfl⟩
theorem dp_fld1 (D : D) (w : World) : (Instr.field 50 (.agg (dArr D)) 1).run Tryd.prog w = .ok (.bool D.b1) w := by kernel_rfl

set_option maxHeartbeats 16000000 in
set_option maxRecDepth 100000 in
theorem policy_fresh (st : Int) (A : Option Addr) (n c : Nat) (fs : List Fd) (se re ag : Int) (hv : Bool) (d q : D) (hi : Int) (h0 : 0 ≤ hi) (h1 : hi ≤ 6545530159104) (w : World) (hf : RdF w A n fs) (hn : n ≤ 1073741824) (hsz : Bsz 1048576 fs) (hg : GlH w) (hT : sumF fs + 2 * n ≤ 70368744177664) (hgl : Gl w) :
    Calls Tryd.prog 36 #[.agg #[.int .i64 st, .slice A n c, .int .i64 se, .int .i64 re, .int .i64 ag, .bool hv], .agg (dArr d), .agg (dArr q), .int .i64 hi] w fun e w' => e = .returned (.int .i64 (fvS hi (ofS st fs).1 (alwS fs).1 (nmT q.n0) (nmT q.n5) (nmT q.n4) d.b4 (decide (0 ≤ d.n1)))) ∧ Ext w w' := by
  have HO := Lib.hid (fun w' (h : Ext w w') => life_Of st A n c fs w' (hf.ext h) hn hsz (hg.ext h) hT (hgl.ext h))
  have HA := Lib.hid (fun w' (h : Ext w w') => life_Allowance A n c fs w' (hf.ext h) hn hsz (hgl.ext h))
  have HT0 := Lib.hid (policy_ticks q.n0)
  have HT5 := Lib.hid (policy_ticks q.n5)
  have HT4 := Lib.hid (policy_ticks q.n4)
  have K0 := tk_eq q.n0
  have K5 := tk_eq q.n5
  have K4 := tk_eq q.n4
  obtain ⟨l0, l1, _⟩ := ofS_bd st fs
  obtain ⟨a0, a1, _, _⟩ := alwS_bd fs
  have HQ := Lib.hid (show ∀ k : Int, fvS hi (ofS st fs).1 (alwS fs).1 (nmT q.n0) (nmT q.n5) (nmT q.n4) d.b4 (decide (0 ≤ d.n1)) = k → Ending.returned (.int .i64 k) = Ending.returned (.int .i64 (fvS hi (ofS st fs).1 (alwS fs).1 (nmT q.n0) (nmT q.n5) (nmT q.n4) d.b4 (decide (0 ≤ d.n1)))) from fun k h => by rw [h])
  generalize hFV : fvS hi (ofS st fs).1 (alwS fs).1 (nmT q.n0) (nmT q.n5) (nmT q.n4) d.b4 (decide (0 ≤ d.n1)) = FV at HQ ⊢
  have HFV := Lib.hid hFV; clear hFV
  generalize ofS st fs = O at *
  generalize alwS fs = AL at *
  obtain ⟨life, kd⟩ := O
  obtain ⟨wh, on⟩ := AL
  simp only [] at l0 l1 a0 a1 HFV
  generalize tkS q.n0 = V0 at *
  generalize tkS q.n5 = V5 at *
  generalize tkS q.n4 = V4 at *
  generalize nmT q.n0 = M0 at *
  generalize nmT q.n5 = M5 at *
  generalize nmT q.n4 = M4 at *
  have HK0 := Lib.hid K0; have HK5 := Lib.hid K5; have HK4 := Lib.hid K4; clear K0 K5 K4
  have HBs := Lib.hid (((Blk.new w 34 #[.int .i64 st, .slice A n c, .int .i64 se, .int .i64 re, .int .i64 ag, .bool hv]).alloc (.cells (dArr d) 50)).alloc (.cells (dArr q) 50))
  have HBd := Lib.hid ((show Blk ((w.alloc (.cells #[.int .i64 st, .slice A n c, .int .i64 se, .int .i64 re, .int .i64 ag, .bool hv] 34)).alloc (.cells (dArr d) 50)) (w.heap.size + 1) 50 (dArr d) by
    have h := Blk.new (w.alloc (.cells #[.int .i64 st, .slice A n c, .int .i64 se, .int .i64 re, .int .i64 ag, .bool hv] 34)) 50 (dArr d)
    rw [World.size_alloc] at h; exact h).alloc (.cells (dArr q) 50))
  have HBq := Lib.hid (show Blk (((w.alloc (.cells #[.int .i64 st, .slice A n c, .int .i64 se, .int .i64 re, .int .i64 ag, .bool hv] 34)).alloc (.cells (dArr d) 50)).alloc (.cells (dArr q) 50)) (w.heap.size + 1 + 1) 50 (dArr q) by
    have h := Blk.new ((w.alloc (.cells #[.int .i64 st, .slice A n c, .int .i64 se, .int .i64 re, .int .i64 ag, .bool hv] 34)).alloc (.cells (dArr d) 50)) 50 (dArr q)
    rw [World.size_alloc, World.size_alloc] at h; exact h)
  have HE := Lib.hid ((((Ext.refl w).alloc (.cells #[.int .i64 st, .slice A n c, .int .i64 se, .int .i64 re, .int .i64 ag, .bool hv] 34)).alloc (.cells (dArr d) 50)).alloc (.cells (dArr q) 50))
  go_enter Tryd.func36, Tryd.ntmps36
  go_wp2_with fail
  generalize ((w.alloc (.cells #[.int .i64 st, .slice A n c, .int .i64 se, .int .i64 re, .int .i64 ag, .bool hv] 34)).alloc (.cells (dArr d) 50)).alloc (.cells (dArr q) 50) = W0 at *
  refine (HO.out _ HE.out).mono ?_; rintro e w1 ⟨rfl, hb1⟩
  have s1 := (HBs.out.ext hb1).cell 1
  rw [show pairV (life, kd) = .tuple #[.int .i64 life, .int .i64 kd] from rfl]
  go_wp2_with fail
  refine (HA.out _ (HE.out.trans hb1)).mono ?_; rintro e w2 ⟨rfl, hb2⟩
  have h2 := hb1.trans hb2
  clear s1
  have q0 : w2.cell? ⟨w.heap.size + 1 + 1, 6, none⟩ = some (.int .i64 q.n0) := (HBq.out.ext h2).cell 6
  have q1 : w2.cell? ⟨w.heap.size + 1 + 1, 11, none⟩ = some (.int .i64 q.n5) := (HBq.out.ext h2).cell 11
  have q2 : w2.cell? ⟨w.heap.size + 1 + 1, 10, none⟩ = some (.int .i64 q.n4) := (HBq.out.ext h2).cell 10
  have d0 : w2.cell? ⟨w.heap.size + 1, 4, none⟩ = some (.bool d.b4) := (HBd.out.ext h2).cell 4
  have d1 : w2.cell? ⟨w.heap.size + 1, 7, none⟩ = some (.int .i64 d.n1) := (HBd.out.ext h2).cell 7
  rw [show pairV (wh, on) = .tuple #[.int .i64 wh, .int .i64 on] from rfl]
  go_wp2_with fail
  refine (HT0.out _).mono ?_; rintro e w3 ⟨rfl, rfl⟩
  go_wp2_with fail
  refine (HT5.out _).mono ?_; rintro e w3 ⟨rfl, rfl⟩
  go_wp2_with fail
  refine (HT4.out _).mono ?_; rintro e w3 ⟨rfl, rfl⟩
  have HH := Lib.hid (HE.out.trans h2)
  clear hb1 hb2 h2
  generalize decide (0 ≤ q.n0) = B0 at *
  generalize decide (0 ≤ q.n5) = B5 at *
  generalize decide (0 ≤ q.n4) = B4 at *
  by_cases h1p : hi < life
  · rcases HK0.out with ⟨rfl, m0a, m0b, m0c⟩ | ⟨rfl, m0a⟩
    · by_cases h2p : hi < V0
      · rcases HK5.out with ⟨rfl, m5a, m5b, m5c⟩ | ⟨rfl, m5a⟩
        · by_cases h3p : hi + V5 < life
          · have h4p : hi < life + wh := by omega
            have HL := Lib.hid (HQ.out 1 (HFV.out.symm.trans (fv1 (by omega))))
            go_wp2_with fail
            go_ret
            exact ⟨HL.out, HH.out⟩
          · rcases HK4.out with ⟨rfl, m4a, m4b, m4c⟩ | ⟨rfl, m4a⟩
            · have h4p : hi < life + wh := by omega
              have h5p : hi < life + V4 := by omega
              have HL := Lib.hid (HQ.out 0 (HFV.out.symm.trans (fv0 (by omega) (by omega) (.inl (by omega)))))
              go_wp2_with fail
              go_ret
              exact ⟨HL.out, HH.out⟩
            · have h4p : hi < life + wh := by omega
              have HL := Lib.hid (HQ.out 0 (HFV.out.symm.trans (fv0 (by omega) (by omega) (.inl (by omega)))))
              go_wp2_with fail
              go_ret
              exact ⟨HL.out, HH.out⟩
        · have h4p : hi < life + wh := by omega
          have HL := Lib.hid (HQ.out 1 (HFV.out.symm.trans (fv1 (by omega))))
          go_wp2_with fail
          go_ret
          exact ⟨HL.out, HH.out⟩
      · rcases HK4.out with ⟨rfl, m4a, m4b, m4c⟩ | ⟨rfl, m4a⟩
        · rcases HK5.out with ⟨rfl, m5a, m5b, m5c⟩ | ⟨rfl, m5a⟩
          · have h4p : hi < life + wh := by omega
            have h5p : hi < life + V4 := by omega
            have HL := Lib.hid (HQ.out 0 (HFV.out.symm.trans (fv0 (by omega) (by omega) (.inl (by omega)))))
            go_wp2_with fail
            go_ret
            exact ⟨HL.out, HH.out⟩
          · cases hmr : d.b4
            · (try rw [hmr] at d0)
              by_cases sap : 0 ≤ d.n1
              · have h4p : hi < life + wh := by omega
                have h5p : hi < life + V4 := by omega
                have HL := Lib.hid (HQ.out 0 (HFV.out.symm.trans (fv0 (by omega) (by omega) (.inr (.inr (decide_eq_true sap))))))
                have hz := decide_eq_false (show ¬ d.n1 < 0 by omega)
                go_wp2_with fail
                go_ret
                exact ⟨HL.out, HH.out⟩
              · by_cases h6p : hi < V0 + V4
                · have h4p : hi < life + wh := by omega
                  have h5p : hi < life + V4 := by omega
                  have HL := Lib.hid (HQ.out 3 (HFV.out.symm.trans (fv3 (by omega) (by omega) (by omega) hmr (decide_eq_false sap) (by omega))))
                  have hz := decide_eq_true (show d.n1 < 0 by omega)
                  go_wp2_with fail
                  go_ret
                  exact ⟨HL.out, HH.out⟩
                · have h4p : hi < life + wh := by omega
                  have h5p : hi < life + V4 := by omega
                  have HL := Lib.hid (HQ.out 0 (HFV.out.symm.trans (fv0 (by omega) (by omega) (.inl (by omega)))))
                  have hz := decide_eq_true (show d.n1 < 0 by omega)
                  go_wp2_with fail
                  go_ret
                  exact ⟨HL.out, HH.out⟩
            · (try rw [hmr] at d0)
              have h4p : hi < life + wh := by omega
              have h5p : hi < life + V4 := by omega
              have HL := Lib.hid (HQ.out 0 (HFV.out.symm.trans (fv0 (by omega) (by omega) (.inr (.inl hmr)))))
              go_wp2_with fail
              go_ret
              exact ⟨HL.out, HH.out⟩
        · have h4p : hi < life + wh := by omega
          have HL := Lib.hid (HQ.out 0 (HFV.out.symm.trans (fv0 (by omega) (by omega) (.inl (by omega)))))
          go_wp2_with fail
          go_ret
          exact ⟨HL.out, HH.out⟩
    · rcases HK5.out with ⟨rfl, m5a, m5b, m5c⟩ | ⟨rfl, m5a⟩
      · by_cases h3p : hi + V5 < life
        · have h4p : hi < life + wh := by omega
          have HL := Lib.hid (HQ.out 1 (HFV.out.symm.trans (fv1 (by omega))))
          go_wp2_with fail
          go_ret
          exact ⟨HL.out, HH.out⟩
        · rcases HK4.out with ⟨rfl, m4a, m4b, m4c⟩ | ⟨rfl, m4a⟩
          · have h4p : hi < life + wh := by omega
            have h5p : hi < life + V4 := by omega
            have HL := Lib.hid (HQ.out 0 (HFV.out.symm.trans (fv0 (by omega) (by omega) (.inl (by omega)))))
            go_wp2_with fail
            go_ret
            exact ⟨HL.out, HH.out⟩
          · have h4p : hi < life + wh := by omega
            have HL := Lib.hid (HQ.out 0 (HFV.out.symm.trans (fv0 (by omega) (by omega) (.inl (by omega)))))
            go_wp2_with fail
            go_ret
            exact ⟨HL.out, HH.out⟩
      · have h4p : hi < life + wh := by omega
        have HL := Lib.hid (HQ.out 1 (HFV.out.symm.trans (fv1 (by omega))))
        go_wp2_with fail
        go_ret
        exact ⟨HL.out, HH.out⟩
  · by_cases h4p : hi < life + wh
    · rcases HK0.out with ⟨rfl, m0a, m0b, m0c⟩ | ⟨rfl, m0a⟩
      · rcases HK4.out with ⟨rfl, m4a, m4b, m4c⟩ | ⟨rfl, m4a⟩
        · rcases HK5.out with ⟨rfl, m5a, m5b, m5c⟩ | ⟨rfl, m5a⟩
          · have HL := Lib.hid (HQ.out 0 (HFV.out.symm.trans (fv0 (by omega) (by omega) (.inl (by omega)))))
            go_wp2_with fail
            go_ret
            exact ⟨HL.out, HH.out⟩
          · cases hmr : d.b4
            · (try rw [hmr] at d0)
              by_cases sap : 0 ≤ d.n1
              · have HL := Lib.hid (HQ.out 0 (HFV.out.symm.trans (fv0 (by omega) (by omega) (.inr (.inr (decide_eq_true sap))))))
                have hz := decide_eq_false (show ¬ d.n1 < 0 by omega)
                go_wp2_with fail
                go_ret
                exact ⟨HL.out, HH.out⟩
              · by_cases h5p : hi < life + V4
                · by_cases h6p : hi < V0 + V4
                  · have HL := Lib.hid (HQ.out 3 (HFV.out.symm.trans (fv3 (by omega) (by omega) (by omega) hmr (decide_eq_false sap) (by omega))))
                    have hz := decide_eq_true (show d.n1 < 0 by omega)
                    go_wp2_with fail
                    go_ret
                    exact ⟨HL.out, HH.out⟩
                  · have HL := Lib.hid (HQ.out 0 (HFV.out.symm.trans (fv0 (by omega) (by omega) (.inl (by omega)))))
                    have hz := decide_eq_true (show d.n1 < 0 by omega)
                    go_wp2_with fail
                    go_ret
                    exact ⟨HL.out, HH.out⟩
                · have HL := Lib.hid (HQ.out 0 (HFV.out.symm.trans (fv0 (by omega) (by omega) (.inl (by omega)))))
                  have hz := decide_eq_true (show d.n1 < 0 by omega)
                  go_wp2_with fail
                  go_ret
                  exact ⟨HL.out, HH.out⟩
            · (try rw [hmr] at d0)
              have HL := Lib.hid (HQ.out 0 (HFV.out.symm.trans (fv0 (by omega) (by omega) (.inr (.inl hmr)))))
              go_wp2_with fail
              go_ret
              exact ⟨HL.out, HH.out⟩
        · have HL := Lib.hid (HQ.out 0 (HFV.out.symm.trans (fv0 (by omega) (by omega) (.inl (by omega)))))
          go_wp2_with fail
          go_ret
          exact ⟨HL.out, HH.out⟩
      · rcases HK5.out with ⟨rfl, m5a, m5b, m5c⟩ | ⟨rfl, m5a⟩
        · rcases HK4.out with ⟨rfl, m4a, m4b, m4c⟩ | ⟨rfl, m4a⟩
          · have HL := Lib.hid (HQ.out 0 (HFV.out.symm.trans (fv0 (by omega) (by omega) (.inl (by omega)))))
            go_wp2_with fail
            go_ret
            exact ⟨HL.out, HH.out⟩
          · have HL := Lib.hid (HQ.out 0 (HFV.out.symm.trans (fv0 (by omega) (by omega) (.inl (by omega)))))
            go_wp2_with fail
            go_ret
            exact ⟨HL.out, HH.out⟩
        · have HL := Lib.hid (HQ.out 2 (HFV.out.symm.trans (fv2 (by omega) (by omega))))
          go_wp2_with fail
          go_ret
          exact ⟨HL.out, HH.out⟩
    · rcases HK4.out with ⟨rfl, m4a, m4b, m4c⟩ | ⟨rfl, m4a⟩
      · rcases HK5.out with ⟨rfl, m5a, m5b, m5c⟩ | ⟨rfl, m5a⟩
        · have HL := Lib.hid (HQ.out 0 (HFV.out.symm.trans (fv0 (by omega) (by omega) (.inl (by omega)))))
          go_wp2_with fail
          go_ret
          exact ⟨HL.out, HH.out⟩
        · cases hmr : d.b4
          · (try rw [hmr] at d0)
            by_cases sap : 0 ≤ d.n1
            · have HL := Lib.hid (HQ.out 0 (HFV.out.symm.trans (fv0 (by omega) (by omega) (.inr (.inr (decide_eq_true sap))))))
              have hz := decide_eq_false (show ¬ d.n1 < 0 by omega)
              go_wp2_with fail
              go_ret
              exact ⟨HL.out, HH.out⟩
            · by_cases h5p : hi < life + V4
              · rcases HK0.out with ⟨rfl, m0a, m0b, m0c⟩ | ⟨rfl, m0a⟩
                · by_cases h6p : hi < V0 + V4
                  · have HL := Lib.hid (HQ.out 3 (HFV.out.symm.trans (fv3 (by omega) (by omega) (by omega) hmr (decide_eq_false sap) (by omega))))
                    have hz := decide_eq_true (show d.n1 < 0 by omega)
                    go_wp2_with fail
                    go_ret
                    exact ⟨HL.out, HH.out⟩
                  · have HL := Lib.hid (HQ.out 0 (HFV.out.symm.trans (fv0 (by omega) (by omega) (.inl (by omega)))))
                    have hz := decide_eq_true (show d.n1 < 0 by omega)
                    go_wp2_with fail
                    go_ret
                    exact ⟨HL.out, HH.out⟩
                · have HL := Lib.hid (HQ.out 3 (HFV.out.symm.trans (fv3 (by omega) (by omega) (by omega) hmr (decide_eq_false sap) (by omega))))
                  have hz := decide_eq_true (show d.n1 < 0 by omega)
                  go_wp2_with fail
                  go_ret
                  exact ⟨HL.out, HH.out⟩
              · have HL := Lib.hid (HQ.out 0 (HFV.out.symm.trans (fv0 (by omega) (by omega) (.inl (by omega)))))
                have hz := decide_eq_true (show d.n1 < 0 by omega)
                go_wp2_with fail
                go_ret
                exact ⟨HL.out, HH.out⟩
          · (try rw [hmr] at d0)
            have HL := Lib.hid (HQ.out 0 (HFV.out.symm.trans (fv0 (by omega) (by omega) (.inr (.inl hmr)))))
            go_wp2_with fail
            go_ret
            exact ⟨HL.out, HH.out⟩
      · have HL := Lib.hid (HQ.out 0 (HFV.out.symm.trans (fv0 (by omega) (by omega) (.inl (by omega)))))
        go_wp2_with fail
        go_ret
        exact ⟨HL.out, HH.out⟩

set_option maxHeartbeats 16000000 in
set_option maxRecDepth 100000 in
theorem policy_Judge (st : Int) (A : Option Addr) (n c : Nat) (fs : List Fd) (se re ag : Int) (hv : Bool) (q : D) (now ppm : Int) (w : World) (hf : RdF w A n fs) (hn : n ≤ 1073741824) (hsz : Bsz 1048576 fs) (hg : GlH w) (hT : sumF fs + 2 * n ≤ 70368744177664) (hgl : Gl w) :
    Calls Tryd.prog 15 #[.agg #[.int .i64 st, .slice A n c, .int .i64 se, .int .i64 re, .int .i64 ag, .bool hv], .agg (dArr q), .int .i64 now, .int .i64 ppm] w fun e w' => e = .returned (.int .i64 (jdS ⟨st, fs, ⟨se, re, ag⟩, hv⟩ q now ppm)) ∧ Ext w w' := by
  have HP := Lib.hid (fun w' (h : Ext w w') => show Calls Tryd.prog 27 #[.slice A n c] w' fun e w'' => e = .returned (.agg (dArr (ccD fs))) ∧ Ext w' w'' from dir_Parse A n c fs w' (hf.ext h) hn hsz (hgl.ext h))
  have HAt := Lib.hid (age_At se re ag now ppm)
  have HFr := Lib.hid (fun (D : D) (hi : Int) (h0 : 0 ≤ hi) (h1 : hi ≤ 6545530159104) w' (h : Ext w w') => policy_fresh st A n c fs se re ag hv D q hi h0 h1 w' (hf.ext h) hn hsz (hg.ext h) hT (hgl.ext h))
  have Hbd := Lib.hid (fun p (h : atO ⟨se, re, ag⟩ now ppm = some p) => atO_bd h)
  have HJ := Lib.hid (show jdS ⟨st, fs, ⟨se, re, ag⟩, hv⟩ q now ppm = if ((atO ⟨se, re, ag⟩ now ppm).isSome && !(ccD fs).b1 && !q.b1) = true ∧ fvS (hiS ⟨st, fs, ⟨se, re, ag⟩, hv⟩ now ppm) (ofS st fs).1 (alwS fs).1 (nmT q.n0) (nmT q.n5) (nmT q.n4) (ccD fs).b4 (decide (0 ≤ (ccD fs).n1)) ≠ 0 then fvS (hiS ⟨st, fs, ⟨se, re, ag⟩, hv⟩ now ppm) (ofS st fs).1 (alwS fs).1 (nmT q.n0) (nmT q.n5) (nmT q.n4) (ccD fs).b4 (decide (0 ≤ (ccD fs).n1)) else if hv then 4 else 5 from vd_fv ..)
  have Hhi := Lib.hid (show hiS ⟨st, fs, ⟨se, re, ag⟩, hv⟩ now ppm = match atO ⟨se, re, ag⟩ now ppm with | some p => p.2 | none => 0 from rfl)
  generalize jdS ⟨st, fs, ⟨se, re, ag⟩, hv⟩ q now ppm = J at *
  generalize hiS ⟨st, fs, ⟨se, re, ag⟩, hv⟩ now ppm = hi at *
  generalize atO ⟨se, re, ag⟩ now ppm = O at *
  generalize (ofS st fs).1 = life at *
  generalize (alwS fs).1 = wh at *
  generalize ccD fs = D at *
  have HBs := Lib.hid ((Blk.new w 34 #[.int .i64 st, .slice A n c, .int .i64 se, .int .i64 re, .int .i64 ag, .bool hv]).alloc (.cells (dArr q) 50))
  have HBq := Lib.hid (show Blk ((w.alloc (.cells #[.int .i64 st, .slice A n c, .int .i64 se, .int .i64 re, .int .i64 ag, .bool hv] 34)).alloc (.cells (dArr q) 50)) (w.heap.size + 1) 50 (dArr q) by
    have h := Blk.new (w.alloc (.cells #[.int .i64 st, .slice A n c, .int .i64 se, .int .i64 re, .int .i64 ag, .bool hv] 34)) 50 (dArr q)
    rw [World.size_alloc] at h; exact h)
  have HE := Lib.hid (((Ext.refl w).alloc (.cells #[.int .i64 st, .slice A n c, .int .i64 se, .int .i64 re, .int .i64 ag, .bool hv] 34)).alloc (.cells (dArr q) 50))
  have hE1 : ∀ w0 w1 wd, Ext w0 w1 → ExtB w1.heap.size (w1.alloc (.cells (dArr zeroD) 50)) wd → Ext w0 wd := fun w0 w1 wd h k => (h.alloc _).growB k h.size
  have HE1 := Lib.hid hE1; clear hE1
  go_enter Tryd.func15, Tryd.ntmps15
  go_wp2_with fail
  generalize (w.alloc (.cells #[.int .i64 st, .slice A n c, .int .i64 se, .int .i64 re, .int .i64 ag, .bool hv] 34)).alloc (.cells (dArr q) 50) = W0 at *
  refine (HP.out _ HE.out).mono ?_; rintro e w1 ⟨rfl, hb1⟩
  go_wp2_with (first | (refine wpList_storeB rfl 50 (.tmp 9) (.tmp 16) rfl rfl w1.heap.size _ rfl rfl 50 _ (Blk.new w1 _ _) infoDp rfl (dArr_one D) ?_; intro wd hBd hxd; have hB2 := HE1.out _ _ _ hb1 hxd; have s2 := (HBs.out.ext hB2).cell 2; have s3 := (HBs.out.ext hB2).cell 3; have s4 := (HBs.out.ext hB2).cell 4))
  have HBd := Lib.hid hBd
  clear hBd hxd
  generalize w1.heap.size = bd at *
  refine (HAt.out _).mono ?_; rintro e w3 ⟨rfl, hb3⟩
  have h3 := hB2.trans hb3
  clear s2 s3 s4
  have s0 := (HBs.out.ext h3).cell 0
  have s1 := (HBs.out.ext h3).cell 1
  have s2 := (HBs.out.ext h3).cell 2
  have s3 := (HBs.out.ext h3).cell 3
  have s4 := (HBs.out.ext h3).cell 4
  have s5 := (HBs.out.ext h3).cell 5
  have d1 : w3.cell? ⟨bd, 1, none⟩ = some (.bool D.b1) := (HBd.out.ext hb3).cell 1
  have q1 : w3.cell? ⟨w.heap.size + 1, 1, none⟩ = some (.bool q.b1) := (HBq.out.ext h3).cell 1
  have HBd3 := Lib.hid (HBd.out.ext hb3)
  have HBq3 := Lib.hid (HBq.out.ext h3)
  have HH := Lib.hid (HE.out.trans h3)
  cases O with
  | none =>
    have HL := Lib.hid (show J = if hv then 4 else 5 by rw [HJ.out, if_neg (by simp)])
    unfold atV
    cases hv
    all_goals
      go_wp2_with fail
      go_ret
      exact ⟨ret_n HL.out.symm, HH.out⟩
  | some p =>
    obtain ⟨lo, hi2⟩ := p
    obtain ⟨_, _, u0, u1⟩ := Hbd.out _ rfl
    obtain rfl : hi = hi2 := Hhi.out
    simp only [] at u0 u1
    unfold atV
    cases hdb : D.b1
    rotate_left
    · have HL := Lib.hid (show J = if hv then 4 else 5 by rw [HJ.out, if_neg (by simp [hdb])])
      have d1 : w3.cell? ⟨bd, 1, none⟩ = some (.bool true) := by rw [← hdb]; exact d1
      cases hv
      all_goals
        go_wp2_with fail
        go_ret
        exact ⟨ret_n HL.out.symm, HH.out⟩
    have d1 : w3.cell? ⟨bd, 1, none⟩ = some (.bool false) := by rw [← hdb]; exact d1
    cases hqb : q.b1
    rotate_left
    · have HL := Lib.hid (show J = if hv then 4 else 5 by rw [HJ.out, if_neg (by simp [hqb])])
      have q1 : w3.cell? ⟨w.heap.size + 1, 1, none⟩ = some (.bool true) := by rw [← hqb]; exact q1
      cases hv
      all_goals
        go_wp2_with fail
        go_ret
        exact ⟨ret_n HL.out.symm, HH.out⟩
    have q1 : w3.cell? ⟨w.heap.size + 1, 1, none⟩ = some (.bool false) := by rw [← hqb]; exact q1
    have HF1 := Lib.hid (HFr.out D hi u0 (by omega))
    have HJ2 := Lib.hid (show J = if fvS hi life wh (nmT q.n0) (nmT q.n5) (nmT q.n4) D.b4 (decide (0 ≤ D.n1)) ≠ 0 then fvS hi life wh (nmT q.n0) (nmT q.n5) (nmT q.n4) D.b4 (decide (0 ≤ D.n1)) else if hv then 4 else 5 by
      rw [HJ.out, hdb, hqb]; simp)
    clear HJ HFr
    generalize fvS hi life wh (nmT q.n0) (nmT q.n5) (nmT q.n4) D.b4 (decide (0 ≤ D.n1)) = FV at *
    go_wp2_with (first
      | (refine wpList_loadB rfl 50 (.tmp 9) rfl bd rfl 50 _ HBd3.out _ Tryd.underlying50 infoDp ?_)
      | (refine wpList_loadB rfl 50 (.tmp 5) rfl (w.heap.size + 1) rfl 50 _ HBq3.out _ Tryd.underlying50 infoDp ?_))
    refine (HF1.out _ HH.out).mono ?_; rintro e w4 ⟨rfl, hb4⟩
    have s5' := hb4.cell s5
    have HH4 := Lib.hid (HH.out.trans hb4)
    by_cases hz : FV = 0
    · subst hz
      have HL := Lib.hid (show J = if hv then 4 else 5 from HJ2.out)
      cases hv
      all_goals
        go_wp2_with fail
        go_ret
        exact ⟨ret_n HL.out.symm, HH4.out⟩
    · have HL := Lib.hid (show J = FV by rw [HJ2.out, if_pos hz])
      have hzb : (FV != 0) = true := by simpa using hz
      go_wp2_with fail
      go_ret
      exact ⟨ret_n HL.out.symm, HH4.out⟩

set_option maxHeartbeats 16000000 in
set_option maxRecDepth 100000 in
theorem policy_OnError (st : Int) (A : Option Addr) (n c : Nat) (fs : List Fd) (se re ag : Int) (hv : Bool) (now ppm : Int) (w : World) (hf : RdF w A n fs) (hn : n ≤ 1073741824) (hsz : Bsz 1048576 fs) (hg : GlH w) (hT : sumF fs + 2 * n ≤ 70368744177664) (hgl : Gl w) :
    Calls Tryd.prog 17 #[.agg #[.int .i64 st, .slice A n c, .int .i64 se, .int .i64 re, .int .i64 ag, .bool hv], .int .i64 now, .int .i64 ppm] w fun e w' => e = .returned (.bool (oeS ⟨st, fs, ⟨se, re, ag⟩, hv⟩ now ppm)) ∧ Ext w w' := by
  have HP := Lib.hid (fun w' (h : Ext w w') => show Calls Tryd.prog 27 #[.slice A n c] w' fun e w'' => e = .returned (.agg (dArr (ccD fs))) ∧ Ext w' w'' from dir_Parse A n c fs w' (hf.ext h) hn hsz (hgl.ext h))
  have HO := Lib.hid (fun w' (h : Ext w w') => life_Of st A n c fs w' (hf.ext h) hn hsz (hg.ext h) hT (hgl.ext h))
  have HA := Lib.hid (fun w' (h : Ext w w') => life_Allowance A n c fs w' (hf.ext h) hn hsz (hgl.ext h))
  have HAt := Lib.hid (age_At se re ag now ppm)
  have Hbd := Lib.hid (fun p (h : atO ⟨se, re, ag⟩ now ppm = some p) => atO_bd h)
  have HJ := Lib.hid (show oeS ⟨st, fs, ⟨se, re, ag⟩, hv⟩ now ppm = ((atO ⟨se, re, ag⟩ now ppm).isSome && !(ccD fs).b1 && decide ((match atO ⟨se, re, ag⟩ now ppm with | some p => p.2 | none => 0) < (ofS st fs).1 + (alwS fs).2)) from rfl)
  obtain ⟨l0, l1, _⟩ := ofS_bd st fs
  obtain ⟨_, _, a0, a1⟩ := alwS_bd fs
  generalize oeS ⟨st, fs, ⟨se, re, ag⟩, hv⟩ now ppm = J at *
  generalize atO ⟨se, re, ag⟩ now ppm = O at *
  generalize ofS st fs = OF at *
  generalize alwS fs = AL at *
  obtain ⟨life, kd⟩ := OF
  obtain ⟨wh, on⟩ := AL
  simp only [] at l0 l1 a0 a1 HJ
  generalize ccD fs = D at *
  have HBs := Lib.hid (Blk.new w 34 #[.int .i64 st, .slice A n c, .int .i64 se, .int .i64 re, .int .i64 ag, .bool hv])
  have HE := Lib.hid ((Ext.refl w).alloc (.cells #[.int .i64 st, .slice A n c, .int .i64 se, .int .i64 re, .int .i64 ag, .bool hv] 34))
  go_enter Tryd.func17, Tryd.ntmps17
  go_wp2_with fail
  generalize w.alloc (.cells #[.int .i64 st, .slice A n c, .int .i64 se, .int .i64 re, .int .i64 ag, .bool hv] 34) = W0 at *
  refine (HAt.out _).mono ?_; rintro e w1 ⟨rfl, hb1⟩
  have s0 := (HBs.out.ext hb1).cell 0
  have s1 := (HBs.out.ext hb1).cell 1
  cases O with
  | none =>
    have HL := Lib.hid (show J = false by rw [HJ.out]; rfl)
    unfold atV
    go_wp2_with fail
    go_ret
    exact ⟨ret_b HL.out.symm, HE.out.trans hb1⟩
  | some p =>
    obtain ⟨lo, hi⟩ := p
    obtain ⟨_, _, u0, u1⟩ := Hbd.out _ rfl
    simp only [] at u0 u1
    unfold atV
    go_wp2_with fail
    refine (HP.out _ (HE.out.trans hb1)).mono ?_; rintro e w2 ⟨rfl, hb2⟩
    have s0 := hb2.cell s0
    have s1 := hb2.cell s1
    have h2 := hb1.trans hb2
    cases hD : D.b1
    rotate_left
    · have HL := Lib.hid (show J = false by rw [HJ.out, hD]; rfl)
      have hfd : ∀ w, (Instr.field 50 (.agg (dArr D)) 1).run Tryd.prog w = .ok (.bool true) w := fun w => by rw [dp_fld1, hD]
      go_wp2_with fail
      go_ret
      exact ⟨ret_b HL.out.symm, HE.out.trans h2⟩
    · have HL := Lib.hid (show J = decide (hi < life + on) by rw [HJ.out, hD]; simp)
      have hfd : ∀ w, (Instr.field 50 (.agg (dArr D)) 1).run Tryd.prog w = .ok (.bool false) w := fun w => by rw [dp_fld1, hD]
      go_wp2_with fail
      refine (HO.out _ (HE.out.trans h2)).mono ?_; rintro e w3 ⟨rfl, hb3⟩
      have s1 := hb3.cell s1
      have h3 := h2.trans hb3
      rw [show pairV (life, kd) = .tuple #[.int .i64 life, .int .i64 kd] from rfl]
      go_wp2_with fail
      refine (HA.out _ (HE.out.trans h3)).mono ?_; rintro e w4 ⟨rfl, hb4⟩
      have h4 := h3.trans hb4
      rw [show pairV (wh, on) = .tuple #[.int .i64 wh, .int .i64 on] from rfl]
      go_wp2_with fail
      go_ret
      exact ⟨ret_b HL.out.symm, HE.out.trans h4⟩

set_option maxHeartbeats 16000000 in
set_option maxRecDepth 100000 in
theorem policy_Limit (st : Int) (A : Option Addr) (n c : Nat) (fs : List Fd) (se re ag : Int) (hv : Bool) (w : World) (hf : RdF w A n fs) (hn : n ≤ 1073741824) (hsz : Bsz 1048576 fs) (hg : GlH w) (hT : sumF fs + 2 * n ≤ 70368744177664) (hgl : Gl w) :
    Calls Tryd.prog 18 #[.agg #[.int .i64 st, .slice A n c, .int .i64 se, .int .i64 re, .int .i64 ag, .bool hv]] w fun e w' => e = .returned (.int .i64 (lmS ⟨st, fs, ⟨se, re, ag⟩, hv⟩)) ∧ Ext w w' := by
  have HP := Lib.hid (fun w' (h : Ext w w') => show Calls Tryd.prog 27 #[.slice A n c] w' fun e w'' => e = .returned (.agg (dArr (ccD fs))) ∧ Ext w' w'' from dir_Parse A n c fs w' (hf.ext h) hn hsz (hgl.ext h))
  have HO := Lib.hid (fun w' (h : Ext w w') => life_Of st A n c fs w' (hf.ext h) hn hsz (hg.ext h) hT (hgl.ext h))
  have HA := Lib.hid (fun w' (h : Ext w w') => life_Allowance A n c fs w' (hf.ext h) hn hsz (hgl.ext h))
  have HJ := Lib.hid (show lmS ⟨st, fs, ⟨se, re, ag⟩, hv⟩ = if (ccD fs).b1 then 0 else (ofS st fs).1 + max (alwS fs).1 (alwS fs).2 from rfl)
  obtain ⟨l0, l1, _⟩ := ofS_bd st fs
  obtain ⟨a0, a1, a2, a3⟩ := alwS_bd fs
  generalize lmS ⟨st, fs, ⟨se, re, ag⟩, hv⟩ = J at *
  generalize ofS st fs = OF at *
  generalize alwS fs = AL at *
  obtain ⟨life, kd⟩ := OF
  obtain ⟨wh, on⟩ := AL
  simp only [] at l0 l1 a0 a1 a2 a3 HJ
  generalize ccD fs = D at *
  have HBs := Lib.hid (Blk.new w 34 #[.int .i64 st, .slice A n c, .int .i64 se, .int .i64 re, .int .i64 ag, .bool hv])
  have HE := Lib.hid ((Ext.refl w).alloc (.cells #[.int .i64 st, .slice A n c, .int .i64 se, .int .i64 re, .int .i64 ag, .bool hv] 34))
  go_enter Tryd.func18, Tryd.ntmps18
  go_wp2_with fail
  generalize w.alloc (.cells #[.int .i64 st, .slice A n c, .int .i64 se, .int .i64 re, .int .i64 ag, .bool hv] 34) = W0 at *
  refine (HP.out _ HE.out).mono ?_; rintro e w2 ⟨rfl, h2⟩
  have s0 := (HBs.out.ext h2).cell 0
  have s1 := (HBs.out.ext h2).cell 1
  cases hD : D.b1
  rotate_left
  · have HL := Lib.hid (show J = 0 by rw [HJ.out, hD]; rfl)
    have hfd : ∀ w, (Instr.field 50 (.agg (dArr D)) 1).run Tryd.prog w = .ok (.bool true) w := fun w => by rw [dp_fld1, hD]
    go_wp2_with fail
    go_ret
    exact ⟨ret_n HL.out.symm, HE.out.trans h2⟩
  · have HL := Lib.hid (show J = life + max wh on by rw [HJ.out, hD]; rfl)
    have hfd : ∀ w, (Instr.field 50 (.agg (dArr D)) 1).run Tryd.prog w = .ok (.bool false) w := fun w => by rw [dp_fld1, hD]
    go_wp2_with fail
    refine (HO.out _ (HE.out.trans h2)).mono ?_; rintro e w3 ⟨rfl, hb3⟩
    have s1 := hb3.cell s1
    have h3 := h2.trans hb3
    rw [show pairV (life, kd) = .tuple #[.int .i64 life, .int .i64 kd] from rfl]
    go_wp2_with fail
    refine (HA.out _ (HE.out.trans h3)).mono ?_; rintro e w4 ⟨rfl, hb4⟩
    have h4 := h3.trans hb4
    rw [show pairV (wh, on) = .tuple #[.int .i64 wh, .int .i64 on] from rfl]
    by_cases hm : wh ≤ on
    · go_wp2_with fail
      all_goals
        go_ret
        exact ⟨ret_n (by rw [HL.out]; try omega), HE.out.trans h4⟩
    · go_wp2_with fail
      all_goals
        go_ret
        exact ⟨ret_n (by rw [HL.out]; try omega), HE.out.trans h4⟩
end Go.Proofs.YtocniclkooiggaaDoor

namespace Go.Proofs.YtocniclkooiggaaDoor
open Go.RowKit

theorem sizeF_step {fs : List Fd} {k : Nat} (h : k < fs.length) : sumF (fs.take (k + 1)) + 4 * (k + 1) = sumF (fs.take k) + 4 * k + (fs[k].1.size + fs[k].2.size + 4) := by
  rw [sumF_step h]; omega

def awakeFs : List Fd := [(⟨#[65]⟩, ⟨#[49]⟩), (⟨#[98]⟩, ⟨#[120]⟩), (⟨#[97]⟩, ⟨#[50]⟩)]
theorem awake_get : joinS (allS awakeFs ⟨#[65]⟩) = ⟨#[49, 44, 32, 50]⟩ ∧ (allS awakeFs ⟨#[65]⟩).length = 2 ∧ sumF awakeFs + 4 * 3 = 18 := by decide +kernel

theorem awake_bsz : Bsz 1 awakeFs := by unfold Bsz; decide +kernel

theorem gets_small {fs : List Fd} (h : smallS fs = true) : fs.length ≤ 70 ∧ sumF fs ≤ 6000 := by
  simpa [smallS] using h

end Go.Proofs.YtocniclkooiggaaDoor

namespace Go.Proofs.YtocniclkooiggaaDoor
open Go.RowKit

theorem infoRfd : (Tryd.prog.info? 93).map (fun i => (i.zero, i.size, i.bytes)) = some (some (.agg #[.string ⟨#[]⟩, .string ⟨#[]⟩]), 2, 32) := by kernel_rfl

end Go.Proofs.YtocniclkooiggaaDoor

namespace Go.Proofs.YtocniclkooiggaaDoor
open Go.RowKit

/-- Directives whose first k times are within their limits. -/
def dTo (d : D) : Nat → D
  | 0 => d
  | 1 => { d with n0 := nmT d.n0 }
  | 2 => { d with n0 := nmT d.n0, n1 := nmT d.n1 }
  | 3 => { d with n0 := nmT d.n0, n1 := nmT d.n1, n2 := nmT d.n2 }
  | 4 => { d with n0 := nmT d.n0, n1 := nmT d.n1, n2 := nmT d.n2, n3 := nmT d.n3 }
  | 5 => { d with n0 := nmT d.n0, n1 := nmT d.n1, n2 := nmT d.n2, n3 := nmT d.n3, n4 := nmT d.n4 }
  | _ => nmD d
def ptS (g : Nat) : Array Value := #[.pointer (some ⟨g, 6, none⟩), .pointer (some ⟨g, 7, none⟩), .pointer (some ⟨g, 8, none⟩), .pointer (some ⟨g, 9, none⟩), .pointer (some ⟨g, 10, none⟩), .pointer (some ⟨g, 11, none⟩)]

theorem d_cell (d : D) : ∀ k, k < 6 → ∃ x, (dArr (dTo d k))[6 + k]? = some (.int .i64 x) ∧ (dArr (dTo d k)).setIfInBounds (6 + k) (.int .i64 (max (-1) (min x 2147483647))) = dArr (dTo d (k + 1))
  | 0, _ => ⟨d.n0, rfl, rfl⟩
  | 1, _ => ⟨d.n1, rfl, rfl⟩
  | 2, _ => ⟨d.n2, rfl, rfl⟩
  | 3, _ => ⟨d.n3, rfl, rfl⟩
  | 4, _ => ⟨d.n4, rfl, rfl⟩
  | 5, _ => ⟨d.n5, rfl, rfl⟩
  | k + 6, h => absurd h (by omega)
theorem p_cell (g : Nat) : ∀ k, k < 6 → (ptS g)[k]? = some (.pointer (some ⟨g, 6 + k, none⟩))
  | 0, _ => rfl
  | 1, _ => rfl
  | 2, _ => rfl
  | 3, _ => rfl
  | 4, _ => rfl
  | 5, _ => rfl
  | k + 6, h => absurd h (by omega)

end Go.Proofs.YtocniclkooiggaaDoor

namespace Go.Proofs.YtocniclkooiggaaDoor
open Go.RowKit

theorem wpList_loadBG {P : Program} {ops : Array Oper} {rest : List Oper} {o : Oper} {a : Act} {w : World} {Q : Exit → Act → World → Prop} (hw : Region.wanted o (yielded ops a.tmps) = true) (ty : TypeId) (x : Operand) (ho : o.op = .load ty x)
    (g : Nat) (hx : a.eval x = .pointer (some ⟨g, 0, none⟩)) (t : TypeId) (cs : Array Value) (hg : Blk w g t cs) (fs : Array Field)
    (hu : P.underlying ty = some (.struct fs)) (hi : (P.info? ty).map (·.size) = some cs.size)
    (h : wpList P ops Q rest (a.put o.dst (.agg cs)) w) : wpList P ops Q (o :: rest) a w :=
  wpList_step fun K hK => by
    rw [if_pos hw]
    exact wp_load_row ty x ho g hx t cs (0, 0) _ hg hu rfl hi (hK _ _ h)
theorem bsz_of_sumF : ∀ (fs : List Fd), Bsz (sumF fs) fs
  | [] => fun f hf => by cases hf
  | x :: l => fun f hf => by
    have hs : sumF (x :: l) = x.1.size + x.2.size + sumF l := by simp [sumF]
    rcases List.mem_cons.1 hf with rfl | hf
    · omega
    · have := bsz_of_sumF l f hf
      omega
theorem sumF_app17 (fs gs : List Fd) : sumF (fs ++ gs) = sumF fs + sumF gs := by simp [sumF]
/-- Are there more bytes than the statements use? -/
def lg17 (fs : List Fd) : Bool := decide (3000 < 2 * fs.length + sumF fs)
set_option maxHeartbeats 2000000 in
theorem law17_large (A : Option Addr) (n c : Nat) (fs : List Fd) (w : World) (hf : RdF w A n fs) (hb : fs.length + sumF fs ≤ 1048576) :
    Calls Tryd.prog 20 #[.slice A n c] w fun e w' => e = .returned (.bool (lg17 fs)) ∧ Ext w w' := by
  have hl := hf.lenF
  have Hl := Lib.hid hl; clear hl
  have hn : n ≤ 1048576 := by have := Hl.out; omega
  have hsz := bsz_of_sumF fs
  go_enter Tryd.func20, Tryd.ntmps20
  go_wp2_with fail
  go_loopw [3, 8] (fun v i wr => ∃ k z, k ≤ n ∧ i = .int .i64 (k : Nat) ∧ v = .int .i64 (z : Nat) ∧ z = 2 * k + sumF (fs.take k) ∧ z ≤ 4194304 ∧ Ext w wr) (fun _ i _ => n - (intOf i).toNat)
  case atStart => exact ⟨0, 0, Nat.zero_le _, rfl, rfl, by simp [sumF], by omega, Ext.refl _⟩
  case round =>
    obtain ⟨k, z, hk, rfl, rfl, hz, hz2, hbr⟩ := hrel
    have Hz := Lib.hid hz; clear hz
    by_cases hlt : k < n
    · have hlt' : k < fs.length := by have := Hl.out; omega
      obtain ⟨b, o, rfl, hc0, hc1⟩ := (hf.ext hbr).atF hlt'
      have hm : sumF (fs.take k) + (fs[k].1.size + fs[k].2.size) ≤ sumF fs := by
        rw [← sumF_step hlt']
        have := sumF_app17 (fs.take (k + 1)) (fs.drop (k + 1))
        rw [List.take_append_drop] at this
        omega
      have Hst := Lib.hid (sumF_step hlt')
      have h1 : fs[k].1.size ≤ 1048576 := by omega
      have h2 : fs[k].2.size ≤ 1048576 := by omega
      have Hz3 := Lib.hid (show z + (2 + fs[k].1.size + fs[k].2.size) ≤ 4194304 by have := Hz.out; have := Hl.out; omega)
      clear hm
      generalize fs[k].1 = nm at *
      generalize fs[k].2 = vl at *
      go_wp2_with fail
      go_roundw
      case rel => exact ⟨k + 1, z + (2 + nm.size + vl.size), by omega, by go_num, by go_num, by rw [Hst.out, Hz.out]; omega, Hz3.out, hbr.alloc _⟩
      case measure => simp [intOf]; omega
    · obtain rfl : k = n := by omega
      have He := Lib.hid (show lg17 fs = decide (3000 < z) by unfold lg17; rw [Hz.out, List.take_of_length_le (by have := Hl.out; omega), Hl.out])
      go_wp2_with fail
      go_ret
      exact ⟨congrArg (fun x => Ending.returned (.bool x)) (by rw [He.out]; (try simp); (try omega)), hbr⟩
theorem lg_no17 {fs : List Fd} (h : lg17 fs = false) : 2 * fs.length + sumF fs ≤ 3000 := by
  unfold lg17 at h
  have := of_decide_eq_false h
  omega


set_option maxHeartbeats 4000000 in
set_option maxRecDepth 100000 in
theorem law17_rank (st : Int) (A : Option Addr) (n c : Nat) (fs : List Fd) (se re ag : Int) (hv : Bool) (q : D) (now ppm : Int) (w : World) (hf : RdF w A n fs) (hn : n ≤ 1073741824) (hsz : Bsz 1048576 fs) (hg : GlH w) (hT : sumF fs + 2 * n ≤ 70368744177664) (hgl : Gl w) :
    Calls Tryd.prog 24 #[.agg #[.int .i64 st, .slice A n c, .int .i64 se, .int .i64 re, .int .i64 ag, .bool hv], .agg (dArr q), .agg #[.int .i64 now, .int .i64 ppm]] w fun e w' => e = .returned (.int .i64 (jdS ⟨st, fs, ⟨se, re, ag⟩, hv⟩ q now ppm)) ∧ Ext w w' := by
  have HJ := Lib.hid (fun w' (h : Ext w w') => policy_Judge st A n c fs se re ag hv q now ppm w' (hf.ext h) hn hsz (hg.ext h) hT (hgl.ext h))
  generalize jdS ⟨st, fs, ⟨se, re, ag⟩, hv⟩ q now ppm = J at *
  have HBq := Lib.hid ((show Blk ((w.alloc (.cells #[.int .i64 st, .slice A n c, .int .i64 se, .int .i64 re, .int .i64 ag, .bool hv] 34)).alloc (.cells (dArr q) 50)) (w.heap.size + 1) 50 (dArr q) by
    have h := Blk.new (w.alloc (.cells #[.int .i64 st, .slice A n c, .int .i64 se, .int .i64 re, .int .i64 ag, .bool hv] 34)) 50 (dArr q)
    rw [World.size_alloc] at h; exact h).alloc (.cells #[.int .i64 now, .int .i64 ppm] 63))
  have HE := Lib.hid ((((Ext.refl w).alloc (.cells #[.int .i64 st, .slice A n c, .int .i64 se, .int .i64 re, .int .i64 ag, .bool hv] 34)).alloc (.cells (dArr q) 50)).alloc (.cells #[.int .i64 now, .int .i64 ppm] 63))
  go_enter Tryd.func24, Tryd.ntmps24
  go_wp2_with (first
      | (refine wpList_loadB rfl 50 (.tmp 4) rfl (w.heap.size + 1) rfl 50 _ HBq.out _ Tryd.underlying50 infoDp ?_))
  refine (HJ.out _ HE.out).mono ?_; rintro e w1 ⟨rfl, hb1⟩
  go_wp2_with fail
  go_ret
  exact ⟨rfl, HE.out.trans hb1⟩

theorem infoSt : (Tryd.prog.info? 34).map (·.size) = some 6 := by kernel_rfl
theorem infoRs : (Tryd.prog.info? 60).map (·.size) = some 6 := by kernel_rfl
theorem infoTm : (Tryd.prog.info? 32).map (·.size) = some 3 := by kernel_rfl
set_option maxHeartbeats 1000000 in
set_option maxRecDepth 100000 in
theorem law13_Times (se re ag : Int) (w : World) : Calls Tryd.prog 40 #[.agg #[.int .i64 se, .int .i64 re, .int .i64 ag]] w fun e w' => e = .returned (.agg #[.int .i64 se, .int .i64 re, .int .i64 ag]) ∧ Ext w w' := by
  have hB := Blk.new (w.alloc (.cells #[.int .i64 se, .int .i64 re, .int .i64 ag] 58)) 32 #[.int .i64 se, .int .i64 re, .int .i64 ag]
  rw [World.size_alloc] at hB
  have HB := Lib.hid hB
  clear hB
  go_enter Tryd.func40, Tryd.ntmps40
  go_wp2_with fail
  exact bodyPost_ret (v := .agg #[.int .i64 se, .int .i64 re, .int .i64 ag]) (results_cell_row rfl _ _ (w.heap.size + 1) 32 _ (0, 0) _ rfl HB.out Tryd.underlying32 rfl infoTm) rfl ⟨rfl, ((Ext.refl w).alloc _).alloc _⟩

set_option maxHeartbeats 8000000 in
set_option maxRecDepth 100000 in
theorem law17_Stored (st : Int) (A : Option Addr) (n c : Nat) (fs : List Fd) (se re ag : Int) (hv : Bool) (w : World) (hf : RdF w A n fs) (hn : n ≤ 1073741824) :
    Calls Tryd.prog 22 #[.agg #[.int .i64 st, .slice A n c, .int .i64 se, .int .i64 re, .int .i64 ag, .bool hv]] w fun e w' => ∃ A' c', e = .returned (.agg #[.int .i64 st, .slice A' n c', .int .i64 se, .int .i64 re, .int .i64 ag, .bool hv]) ∧ RdF w' A' n fs ∧ n ≤ c' ∧ Ext w w' ∧ (∀ a, A' = some a → w.heap.size ≤ a.block) := by
  have HF := Lib.hid (fun w' (h : Ext w w') => law_Fields A n c fs w' (hf.ext h) hn)
  have hB := (Blk.new w 60 #[.int .i64 st, .slice A n c, .int .i64 se, .int .i64 re, .int .i64 ag, .bool hv]).alloc (.cells #[.int .i64 0, .slice none 0 0, .int .i64 0, .int .i64 0, .int .i64 0, .bool false] 34)
  have hZ := Blk.new (w.alloc (.cells #[.int .i64 st, .slice A n c, .int .i64 se, .int .i64 re, .int .i64 ag, .bool hv] 60)) 34 #[.int .i64 0, .slice none 0 0, .int .i64 0, .int .i64 0, .int .i64 0, .bool false]
  rw [World.size_alloc] at hZ
  have hE1 := ((Ext.refl w).alloc (.cells #[.int .i64 st, .slice A n c, .int .i64 se, .int .i64 re, .int .i64 ag, .bool hv] 60)).alloc (.cells #[.int .i64 0, .slice none 0 0, .int .i64 0, .int .i64 0, .int .i64 0, .bool false] 34)
  have HB := Lib.hid hB; have HZ := Lib.hid hZ; have HW := Lib.hid hE1
  clear hB hZ hE1
  go_enter Tryd.func22, Tryd.ntmps22
  go_wp2_with fail
  generalize (w.alloc (.cells #[.int .i64 st, .slice A n c, .int .i64 se, .int .i64 re, .int .i64 ag, .bool hv] 60)).alloc (.cells #[.int .i64 0, .slice none 0 0, .int .i64 0, .int .i64 0, .int .i64 0, .bool false] 34) = W0 at *
  have HC := Lib.hid (show ∀ w', Ext W0 w' → (w'.cell? ⟨w.heap.size, 0, none⟩ = some (.int .i64 st) ∧ w'.cell? ⟨w.heap.size, 1, none⟩ = some (.slice A n c) ∧ w'.cell? ⟨w.heap.size, 2, none⟩ = some (.int .i64 se) ∧ w'.cell? ⟨w.heap.size, 3, none⟩ = some (.int .i64 re) ∧ w'.cell? ⟨w.heap.size, 4, none⟩ = some (.int .i64 ag) ∧ w'.cell? ⟨w.heap.size, 5, none⟩ = some (.bool hv)) from fun w' h => ⟨(HB.out.ext h).cell 0, (HB.out.ext h).cell 1, (HB.out.ext h).cell 2, (HB.out.ext h).cell 3, (HB.out.ext h).cell 4, (HB.out.ext h).cell 5⟩)
  have hsz := HW.out.size
  have hlt := HZ.out.lt
  have Hsz := Lib.hid (show ∀ w', Ext W0 w' → w.heap.size + 1 < w'.heap.size from fun w' h => by have := h.size; omega)
  generalize hb : w.heap.size = b at *
  have hne : b ≠ b + 1 := by omega
  have hE := (Ext.refl W0).drew
  refine wp_region_held_drew (S := (fun w' => w'.cell? ⟨b, 0, none⟩ = some (.int .i64 st) ∧ w'.cell? ⟨b, 1, none⟩ = some (.slice A n c) ∧ w'.cell? ⟨b, 2, none⟩ = some (.int .i64 se) ∧ w'.cell? ⟨b, 3, none⟩ = some (.int .i64 re) ∧ w'.cell? ⟨b, 4, none⟩ = some (.int .i64 ag) ∧ w'.cell? ⟨b, 5, none⟩ = some (.bool hv))) (by kernel_rfl) ?_ (fun hHeld => ?_)
  · (try dsimp only); exact HC.out _ hE
  refine wpAnyH_take (i := 0) (oi := { dst := some 3, op := _, type := _, pos := _, after := _, guard := _ }) (v := ?_) rfl (by kernel_rfl) (by kernel_rfl) (by kernel_rfl) (fun _ _ _ h => h) (Or.inl ⟨by rfl, ?_⟩) (by assumption) ?_
  rotate_left
  · (intro w hSw; (try dsimp only at hSw); go_simp; (try with_reducible rfl))
  (try simp only [Act.put, List.setIfInBounds_toArray, List.set_cons_zero, List.set_cons_succ])
  refine wpAnyH_take (i := 1) (oi := { dst := some 4, op := _, type := _, pos := _, after := _, guard := _ }) (v := ?_) rfl (by kernel_rfl) (by kernel_rfl) (by kernel_rfl) (fun _ _ _ h => h) (Or.inl ⟨by rfl, ?_⟩) (by assumption) ?_
  rotate_left
  · (intro w hSw; (try dsimp only at hSw); go_simp; (try with_reducible rfl))
  (try simp only [Act.put, List.setIfInBounds_toArray, List.set_cons_zero, List.set_cons_succ])
  refine wpAnyH_take (i := 2) (oi := { dst := some 5, op := _, type := _, pos := _, after := _, guard := _ }) (v := ?_) rfl (by kernel_rfl) (by kernel_rfl) (by kernel_rfl) (fun _ _ _ h => h) (Or.inl ⟨by rfl, ?_⟩) (by assumption) ?_
  rotate_left
  · (intro w hSw; (try dsimp only at hSw); go_simp; (try with_reducible rfl))
  (try simp only [Act.put, List.setIfInBounds_toArray, List.set_cons_zero, List.set_cons_succ])
  refine wpAnyH_take (i := 3) (oi := { dst := some 6, op := _, type := _, pos := _, after := _, guard := _ }) (v := ?_) rfl (by kernel_rfl) (by kernel_rfl) (by kernel_rfl) (fun _ _ _ h => h) (Or.inl ⟨by rfl, ?_⟩) (by assumption) ?_
  rotate_left
  · (intro w hSw; (try dsimp only at hSw); go_simp; (try with_reducible rfl))
  (try simp only [Act.put, List.setIfInBounds_toArray, List.set_cons_zero, List.set_cons_succ])
  refine wpAnyH_take (i := 5) (oi := { dst := some 8, op := _, type := _, pos := _, after := _, guard := _ }) (v := ?_) rfl (by kernel_rfl) (by kernel_rfl) (by kernel_rfl) (fun _ _ _ h => h) (Or.inl ⟨by rfl, ?_⟩) (by assumption) ?_
  rotate_left
  · (intro w hSw; (try dsimp only at hSw); go_simp; (try with_reducible rfl))
  (try simp only [Act.put, List.setIfInBounds_toArray, List.set_cons_zero, List.set_cons_succ])
  refine wpAnyH_take (i := 6) (oi := { dst := some 9, op := _, type := _, pos := _, after := _, guard := _ }) (v := ?_) rfl (by kernel_rfl) (by kernel_rfl) (by kernel_rfl) (fun _ _ _ h => h) (Or.inl ⟨by rfl, ?_⟩) (by assumption) ?_
  rotate_left
  · (intro w hSw; (try dsimp only at hSw); go_simp; (try with_reducible rfl))
  (try simp only [Act.put, List.setIfInBounds_toArray, List.set_cons_zero, List.set_cons_succ])
  refine wpAnyH_take (i := 8) (oi := { dst := some 11, op := _, type := _, pos := _, after := _, guard := _ }) (v := ?_) rfl (by kernel_rfl) (by kernel_rfl) (by kernel_rfl) (fun _ _ _ h => h) (Or.inl ⟨by rfl, ?_⟩) (by assumption) ?_
  rotate_left
  · (intro w hSw; (try dsimp only at hSw); go_simp; (try with_reducible rfl))
  (try simp only [Act.put, List.setIfInBounds_toArray, List.set_cons_zero, List.set_cons_succ])
  refine wpAnyH_take (i := 9) (oi := { dst := some 12, op := _, type := _, pos := _, after := _, guard := _ }) (v := ?_) rfl (by kernel_rfl) (by kernel_rfl) (by kernel_rfl) (fun _ _ _ h => h) (Or.inl ⟨by rfl, ?_⟩) (by assumption) ?_
  rotate_left
  · (intro w hSw; (try dsimp only at hSw); go_simp; (try with_reducible rfl))
  (try simp only [Act.put, List.setIfInBounds_toArray, List.set_cons_zero, List.set_cons_succ])
  refine wpAnyH_ready (rs := [4]) (by kernel_rfl) (by simp) ?_
  refine AllReadyH.cons (o := { dst := some 7, op := _, type := _, pos := _, after := _, guard := _ }) rfl (fun K hK => ?_) AllReadyH.nil
  go_simp
  refine (HF.out _ (HW.out.trans hE)).mono ?_; rintro e w1 ⟨A2, c2, rfl, hf2, hk2, hb1, hown2⟩; replace hf2 := Lib.hid (⟨hf2, own_far hown2⟩ : _ ∧ _); replace hb1 := hE.trans hb1; clear hE; have hE := hb1; clear hb1; have Hk2 := Lib.hid hk2; clear hk2
  try go_wp2_with fail
  refine hK.out _ _ ?_ (fun hHeld => ?_)
  · (try dsimp only); exact HC.out _ hE
  clear hK K
  (try simp only [Act.put, List.setIfInBounds_toArray, List.set_cons_zero, List.set_cons_succ])
  refine wpAnyH_ready (rs := [7]) (by kernel_rfl) (by simp) ?_
  refine AllReadyH.cons (o := { dst := some 10, op := _, type := _, pos := _, after := _, guard := _ }) rfl (fun K hK => ?_) AllReadyH.nil
  go_simp
  refine (law13_Times se re ag _).mono ?_; rintro e w2 ⟨rfl, hb2⟩; replace hf2 := Lib.hid (⟨hf2.out.1.ext hb2, hf2.out.2⟩ : _ ∧ _); replace hE := hE.trans hb2; clear hb2
  try go_wp2_with fail
  refine hK.out _ _ ?_ (fun hHeld => ?_)
  · (try dsimp only); exact HC.out _ hE
  clear hK K
  (try simp only [Act.put, List.setIfInBounds_toArray, List.set_cons_zero, List.set_cons_succ])
  refine wpAnyH_take (i := 10) (oi := { dst := some 13, op := _, type := _, pos := _, after := _, guard := _ }) (v := ?_) rfl (by kernel_rfl) (by kernel_rfl) (by kernel_rfl) (fun _ _ _ h => h) (Or.inl ⟨by rfl, ?_⟩) (by assumption) ?_
  rotate_left
  · (intro w hSw; (try dsimp only at hSw); go_simp; (try with_reducible rfl))
  (try simp only [Act.put, List.setIfInBounds_toArray, List.set_cons_zero, List.set_cons_succ])
  refine wpAnyH_ready (rs := [11]) (by kernel_rfl) (by simp) ?_
  refine AllReadyH.cons (o := { dst := none, op := _, type := _, pos := _, after := _, guard := _ }) rfl (fun K hK => ?_) AllReadyH.nil
  have z0 := (HZ.out.ext hE).cell 0; have z1 := (HZ.out.ext hE).cell 1; have z2 := (HZ.out.ext hE).cell 2; have z3 := (HZ.out.ext hE).cell 3; have z4 := (HZ.out.ext hE).cell 4; have z5 := (HZ.out.ext hE).cell 5; have zf := (HZ.out.ext hE).frozen
  go_simp
  skip
  try go_wp2_with fail
  refine hK.out _ _ ?_ (fun hHeld => ?_)
  · (try dsimp only); (have hX := (((((((HB.out.ext hE).far (p := ⟨b + 1, 0, none⟩) hne (.int .i64 st)).far (p := ⟨b + 1, 1, none⟩) hne (.slice A2 n c2)).far (p := ⟨b + 1, 2, none⟩) hne (.int .i64 se)).far (p := ⟨b + 1, 3, none⟩) hne (.int .i64 re)).far (p := ⟨b + 1, 4, none⟩) hne (.int .i64 ag)).far (p := ⟨b + 1, 5, none⟩) hne (.bool hv))); exact ⟨hX.cell 0, hX.cell 1, hX.cell 2, hX.cell 3, hX.cell 4, hX.cell 5⟩
  clear hK K
  (try simp only [Act.put, List.setIfInBounds_toArray, List.set_cons_zero, List.set_cons_succ])
  refine wpAnyH_done (by kernel_rfl) ?_ _
  have hY := (((((((HZ.out.ext hE).set_ 0 (.int .i64 st)).set_ 1 (.slice A2 n c2)).set_ 2 (.int .i64 se)).set_ 3 (.int .i64 re)).set_ 4 (.int .i64 ag)).set_ 5 (.bool hv))
  have hG := (((((((ExtB.refl (b + 1) w2).set_ 0 (.int .i64 st)).set_ 1 (.slice A2 n c2)).set_ 2 (.int .i64 se)).set_ 3 (.int .i64 re)).set_ 4 (.int .i64 ag)).set_ 5 (.bool hv))
  have hF := (HW.out.trans hE).growB hG (by omega)
  have hR := Rd.growB hf2.out.1 hG (fun a ha => by
    have h1 := hf2.out.2 a ha
    have h2 := HZ.out.lt
    have h3 : W0.drew.heap.size = W0.heap.size := rfl
    omega)
  clear hG
  generalize ((((((w2.setCell ⟨b + 1, 0, none⟩ (.int .i64 st)).setCell ⟨b + 1, 1, none⟩ (.slice A2 n c2)).setCell ⟨b + 1, 2, none⟩ (.int .i64 se)).setCell ⟨b + 1, 3, none⟩ (.int .i64 re)).setCell ⟨b + 1, 4, none⟩ (.int .i64 ag)).setCell ⟨b + 1, 5, none⟩ (.bool hv)) = WF at *
  have y0 : WF.cell? ⟨b + 1, 0, none⟩ = some (.int .i64 st) := hY.cell 0
  have y1 : WF.cell? ⟨b + 1, 1, none⟩ = some (.slice A2 n c2) := hY.cell 1
  have y2 : WF.cell? ⟨b + 1, 2, none⟩ = some (.int .i64 se) := hY.cell 2
  have y3 : WF.cell? ⟨b + 1, 3, none⟩ = some (.int .i64 re) := hY.cell 3
  have y4 : WF.cell? ⟨b + 1, 4, none⟩ = some (.int .i64 ag) := hY.cell 4
  have y5 : WF.cell? ⟨b + 1, 5, none⟩ = some (.bool hv) := hY.cell 5
  go_wp2_with fail
  exact bodyPost_ret (v := .agg #[.int .i64 st, .slice A2 n c2, .int .i64 se, .int .i64 re, .int .i64 ag, .bool hv]) (by simp [results, Tryd.results22, go_sem, y0, y1, y2, y3, y4, y5]) rfl ⟨A2, c2, rfl, hR, Hk2.out, hF, fun a ha => by
    have h1 := hf2.out.2 a ha
    have h2 := HW.out.size
    have h3 : W0.drew.heap.size = W0.heap.size := rfl
    omega⟩

def aw17 : List Fd := [(ccN, ⟨#[109, 97, 120, 45, 97, 103, 101, 61, 49, 48, 44, 32, 115, 116, 97, 108, 101, 45, 119, 104, 105, 108, 101, 45, 114, 101, 118, 97, 108, 105, 100, 97, 116, 101, 61, 53]⟩)]
def aw17s : Sd := ⟨200, aw17, ⟨0, 0, -1⟩, true⟩
theorem aw17_1 : jdS aw17s noneD 9999 0 = 1 := by decide +kernel
theorem aw17_2 : jdS aw17s noneD 10000 0 = 2 := by decide +kernel
theorem aw17_3 : jdS aw17s noneD 15000 0 = 4 := by decide +kernel
theorem aw17_sum : sumF aw17 = 49 := by decide +kernel
set_option maxHeartbeats 4000000 in
set_option maxRecDepth 100000 in
theorem law17_awake (w : World) (hg : GlH w) (hgl : Gl w) : Calls Tryd.prog 21 #[] w fun e w' => e = .returned (.bool true) ∧ Ext w w' := by
  have hE0 := (Ext.refl w).alloc (.cells (fldCells aw17).toArray 28)
  have hr : RdF (w.alloc (.cells (fldCells aw17).toArray 28)) (some ⟨w.heap.size, 0, none⟩) 1 aw17 := Rd.lit w _ _ rfl 2 1 rfl
  have hJ := fun (now : Int) w' (h : Ext (w.alloc (.cells (fldCells aw17).toArray 28)) w') => policy_Judge 200 (some ⟨w.heap.size, 0, none⟩) 1 1 aw17 0 0 (-1) true noneD now 0 w' (hr.ext h) (by decide) ((bsz_of_sumF _).mono (by rw [aw17_sum]; decide)) ((hg.ext hE0).ext h) (by rw [aw17_sum]; decide) ((hgl.ext hE0).ext h)
  have HJ1 := Lib.hid (fun w' h => by have := hJ 9999 w' h; rw [show (⟨200, aw17, ⟨0, 0, -1⟩, true⟩ : Sd) = aw17s from rfl, aw17_1] at this; exact this)
  have HJ2 := Lib.hid (fun w' h => by have := hJ 10000 w' h; rw [show (⟨200, aw17, ⟨0, 0, -1⟩, true⟩ : Sd) = aw17s from rfl, aw17_2] at this; exact this)
  have HJ3 := Lib.hid (fun w' h => by have := hJ 15000 w' h; rw [show (⟨200, aw17, ⟨0, 0, -1⟩, true⟩ : Sd) = aw17s from rfl, aw17_3] at this; exact this)
  have HE := Lib.hid hE0
  have HBs := Lib.hid (show Blk ((w.alloc (.cells (fldCells aw17).toArray 28)).alloc (.cells #[.int .i64 200, .slice (some ⟨w.heap.size, 0, none⟩) 1 1, .int .i64 0, .int .i64 0, .int .i64 (-1), .bool true] 34)) (w.heap.size + 1) 34 #[.int .i64 200, .slice (some ⟨w.heap.size, 0, none⟩) 1 1, .int .i64 0, .int .i64 0, .int .i64 (-1), .bool true] by
    have h := Blk.new (w.alloc (.cells (fldCells aw17).toArray 28)) 34 #[.int .i64 200, .slice (some ⟨w.heap.size, 0, none⟩) 1 1, .int .i64 0, .int .i64 0, .int .i64 (-1), .bool true]
    rw [World.size_alloc] at h; exact h)
  clear hJ hr hE0
  go_enter Tryd.func21, Tryd.ntmps21
  go_wp2_with fail
  have HE0 := Lib.hid ((Ext.refl (w.alloc (.cells (fldCells aw17).toArray 28))).alloc (.cells #[.int .i64 200, .slice (some ⟨w.heap.size, 0, none⟩) 1 1, .int .i64 0, .int .i64 0, .int .i64 (-1), .bool true] 34))
  refine (dir_None _).mono ?_; rintro e w1 ⟨rfl, hb1⟩
  have HB1 := Lib.hid (HBs.out.ext hb1)
  have HE1 := Lib.hid (HE0.out.trans hb1)
  clear hb1
  go_wp2_with (first
    | (refine wpList_storeB rfl 50 (.tmp 2) (.tmp 7) rfl rfl w1.heap.size _ rfl rfl 50 _ (Blk.new w1 _ _) infoDp rfl (dArr_one noneD) ?_; intro w2 hB2 hx2; have hE2 := (HE1.out.alloc (.cells (dArr zeroD) 50)).growB hx2 HE1.out.size; have hb2 := ((Ext.refl w1).alloc (.cells (dArr zeroD) 50)).growB hx2 (Nat.le_refl _); have c0 := (HB1.out.ext hb2).cell 0; have c1 := (HB1.out.ext hb2).cell 1; have c2 := (HB1.out.ext hb2).cell 2; have c3 := (HB1.out.ext hb2).cell 3; have c4 := (HB1.out.ext hb2).cell 4; have c5 := (HB1.out.ext hb2).cell 5; have HE2 := Lib.hid hE2; have HX2 := Lib.hid hb2; have HB2 := Lib.hid hB2; clear hE2 hb2 hB2 hx2)
    | (refine wpList_loadB rfl 50 (.tmp 2) rfl w1.heap.size rfl 50 _ HB2.out _ Tryd.underlying50 infoDp ?_))
  refine (HJ1.out _ HE2.out).mono ?_; rintro e w3 ⟨rfl, hb3⟩
  have HE3 := Lib.hid (HE2.out.trans hb3)
  have HB3 := Lib.hid (HB2.out.ext hb3)
  replace c0 := hb3.cell c0; replace c1 := hb3.cell c1; replace c2 := hb3.cell c2; replace c3 := hb3.cell c3; replace c4 := hb3.cell c4; replace c5 := hb3.cell c5
  go_wp2_with (first
    | (refine wpList_loadBG (by rfl) 50 (.tmp 2) rfl w1.heap.size rfl 50 _ HB3.out _ Tryd.underlying50 infoDp ?_))
  refine (HJ2.out _ HE3.out).mono ?_; rintro e w4 ⟨rfl, hb4⟩
  have HE4 := Lib.hid (HE3.out.trans hb4)
  have HB4 := Lib.hid (HB3.out.ext hb4)
  replace c0 := hb4.cell c0; replace c1 := hb4.cell c1; replace c2 := hb4.cell c2; replace c3 := hb4.cell c3; replace c4 := hb4.cell c4; replace c5 := hb4.cell c5
  go_wp2_with (first
    | (refine wpList_loadBG (by rfl) 50 (.tmp 2) rfl w1.heap.size rfl 50 _ HB4.out _ Tryd.underlying50 infoDp ?_))
  refine (HJ3.out _ HE4.out).mono ?_; rintro e w5 ⟨rfl, hb5⟩
  go_wp2_with fail
  go_ret
  exact ⟨rfl, HE.out.trans (HE4.out.trans hb5)⟩
end Go.Proofs.YtocniclkooiggaaDoor

namespace Go.Proofs.YtocniclkooiggaaDoor
open Go.RowKit

theorem gl_of {w : World} (h : w.ShapedOpen Tryd.prog) : Gl w :=
  Go.Proofs.cell_of_shapedOpen_int (zero := #[.int .i64 0]) (t := 3) h (of_decide_eq_true (by kernel_rfl)) (by kernel_rfl) rfl (by kernel_rfl) (by kernel_rfl) Tryd.underlying3
theorem u8_wf {x : Int} (h : (Lit.int .u8 x).wf = true) : 0 ≤ x ∧ x ≤ 255 := by
  simp [Lit.wf] at h
  have e1 : IntKind.u8.min = 0 := rfl
  have e2 : IntKind.u8.max = 255 := rfl
  omega
end Go.Proofs.YtocniclkooiggaaDoor

namespace Go.Proofs.YtocniclkooiggaaDoor
open Go.RowKit

theorem eqlR (d : D) (w : World) : (binOp .eql 61 (.agg (dArr d)) (.agg (dArr d))).run Tryd.prog w = .ok (.bool true) w := by
  have hS : Tryd.prog.underlying 61 = some (.struct (Tryd.prog.fieldsOf 61)) := by kernel_rfl
  have hp : Tryd.prog.stoodInHeld 61 = false := by kernel_rfl
  have u3 := Tryd.underlying3
  have u4 := Tryd.underlying4
  rw [run_eql_struct, show (10000 : Nat) = 9998 + 1 + 1 from rfl, run_equalIn_agg w (9998 + 1) 61 _ _ hS hp]
  simp only [Program.fieldsOf, Tryd.underlying61, dArr]
  go_simp
theorem eqlP (d : D) (w : World) : (binOp .eql 50 (.agg (dArr d)) (.agg (dArr d))).run Tryd.prog w = .ok (.bool true) w := by
  have hS : Tryd.prog.underlying 50 = some (.struct (Tryd.prog.fieldsOf 50)) := by kernel_rfl
  have hp : Tryd.prog.stoodInHeld 50 = false := by kernel_rfl
  have u3 := Tryd.underlying3
  have u4 := Tryd.underlying4
  rw [run_eql_struct, show (10000 : Nat) = 9998 + 1 + 1 from rfl, run_equalIn_agg w (9998 + 1) 50 _ _ hS hp]
  simp only [Program.fieldsOf, Tryd.underlying50, dArr]
  go_simp

/-- Are there more bytes than the statements use? -/
def lgS (ss : List ByteArray) : Bool := decide (3000 < ss.length + totS ss)
def xccN : ByteArray := ⟨#[120, 45, 99, 97, 99, 104, 101, 45, 99, 111, 110, 116, 114, 111, 108]⟩
def nsV : ByteArray := ⟨#[110, 111, 45, 115, 116, 111, 114, 101]⟩
/-- Cache-Control fields with these values, with another field ahead of them. -/
def fldsV (ss : List ByteArray) : List Fd := (xccN, nsV) :: ss.map fun v => (ccN, v)
theorem fldsV_step {ss : List ByteArray} {k : Nat} (h : k < ss.length) : fldsV (ss.take (k + 1)) = fldsV (ss.take k) ++ [(ccN, ss[k])] := by
  unfold fldsV; rw [take_step ss k h, List.map_append]; rfl
theorem fldsV_len (ss : List ByteArray) : (fldsV ss).length = ss.length + 1 := by simp [fldsV]
theorem all_flds (ss : List ByteArray) : allS (fldsV ss) ccN = ss := by
  unfold allS fldsV
  rw [List.filter_cons, if_neg (by decide +kernel)]
  have h : ∀ v : ByteArray, isN ccN (ccN, v) = true := fun v => by unfold isN; exact beq_self_eq_true _
  rw [List.filter_eq_self.2 (fun f hf => by obtain ⟨v, _, rfl⟩ := List.mem_map.1 hf; exact h v), List.map_map]
  exact List.map_id _
theorem bsz_flds {B : Nat} {ss : List ByteArray} (h : ∀ v ∈ ss, v.size ≤ B) (hB : 15 ≤ B) : Bsz B (fldsV ss) := by
  intro f hf
  rcases List.mem_cons.1 hf with rfl | hf
  · exact ⟨Nat.le_trans (show xccN.size ≤ 15 by decide) hB, Nat.le_trans (show nsV.size ≤ 15 by decide) hB⟩
  · obtain ⟨v, hv, rfl⟩ := List.mem_map.1 hf
    exact ⟨Nat.le_trans (show ccN.size ≤ 15 by decide) hB, h v hv⟩
theorem totS_mem {ss : List ByteArray} {v : ByteArray} (h : v ∈ ss) : v.size ≤ totS ss := by
  obtain ⟨i, hi, rfl⟩ := List.getElem_of_mem h
  have := totS_at hi; omega
theorem totS_step {l : List ByteArray} {k : Nat} (h : k < l.length) : totS (l.take (k + 1)) = totS (l.take k) + l[k].size := by
  rw [take_step l k h]; unfold totS; rw [List.map_append, List.sum_append]; simp

end Go.Proofs.YtocniclkooiggaaDoor

namespace Go.Proofs.YtocniclkooiggaaDoor
open Go.RowKit

def awV : ByteArray := ⟨#[109, 97, 120, 45, 97, 103, 101, 61, 54, 48, 44, 32, 80, 117, 98, 108, 105, 99]⟩
theorem aw_dir : dirS [awV] = ⟨false, false, false, true, false, false, 60, -1, -1, -1, -1, -1⟩ := by kernel_rfl

end Go.Proofs.YtocniclkooiggaaDoor

namespace Go.Proofs.YtocniclkooiggaaDoor
open Go.RowKit

theorem ret_ii {a b : Int} (h : a = b) : Ending.returned (.int .i64 a) = .returned (.int .i64 b) := by rw [h]
theorem least_any (a b : Int) (w : World) : Calls Tryd.prog 57 #[.int .i64 a, .int .i64 b] w fun e w' => e = .returned (.int .i64 (lst a b)) ∧ Ext w w' := dir_least a b w
theorem ref_time (n : Int) (w : World) : Calls Tryd.prog 41 #[.int .i64 n] w fun e w' => e = .returned (.int .i64 (nmT n)) ∧ Ext w w' := by
  go_enter Tryd.func41, Tryd.ntmps41
  go_wp2_with fail
  go_ret
  exact ⟨rfl, Ext.refl _⟩
end Go.Proofs.YtocniclkooiggaaDoor

namespace Go.Proofs.YtocniclkooiggaaDoor
open Go.RowKit

set_option maxHeartbeats 16000000 in
set_option maxRecDepth 100000 in
theorem ref_Normal (x : D) (w : World) : Calls Tryd.prog 25 #[.agg (dArr x)] w fun e w' => e = .returned (.agg (dArr (nmD x))) ∧ Ext w w' := by
  obtain ⟨a0, a1, a2, a3, a4, a5, p0, p1, p2, p3, p4, p5⟩ := x
  have hA : Blk ((w.alloc (.cells (dArr ⟨a0, a1, a2, a3, a4, a5, p0, p1, p2, p3, p4, p5⟩) 61)).alloc (.cells #[.bool false, .bool false, .bool false, .bool false, .bool false, .bool false, .int .i64 0, .int .i64 0, .int .i64 0, .int .i64 0, .int .i64 0, .int .i64 0] 61)) w.heap.size 61 (dArr ⟨a0, a1, a2, a3, a4, a5, p0, p1, p2, p3, p4, p5⟩) := (Blk.new w 61 (dArr ⟨a0, a1, a2, a3, a4, a5, p0, p1, p2, p3, p4, p5⟩)).alloc (.cells (dArr zeroD) 61)
  have hR : Blk ((w.alloc (.cells (dArr ⟨a0, a1, a2, a3, a4, a5, p0, p1, p2, p3, p4, p5⟩) 61)).alloc (.cells #[.bool false, .bool false, .bool false, .bool false, .bool false, .bool false, .int .i64 0, .int .i64 0, .int .i64 0, .int .i64 0, .int .i64 0, .int .i64 0] 61)) (w.heap.size + 1) 61 (dArr zeroD) := by
    have h := Blk.new (w.alloc (.cells (dArr ⟨a0, a1, a2, a3, a4, a5, p0, p1, p2, p3, p4, p5⟩) 61)) 61 (dArr zeroD)
    rw [World.size_alloc] at h
    exact h
  have hEE : Ext w ((w.alloc (.cells (dArr ⟨a0, a1, a2, a3, a4, a5, p0, p1, p2, p3, p4, p5⟩) 61)).alloc (.cells #[.bool false, .bool false, .bool false, .bool false, .bool false, .bool false, .int .i64 0, .int .i64 0, .int .i64 0, .int .i64 0, .int .i64 0, .int .i64 0] 61)) := ((Ext.refl w).alloc (.cells (dArr ⟨a0, a1, a2, a3, a4, a5, p0, p1, p2, p3, p4, p5⟩) 61)).alloc (.cells (dArr zeroD) 61)
  have HK := Lib.hid (⟨hA, hR, hEE⟩ : _ ∧ _ ∧ _)
  clear hA hR hEE
  go_enter Tryd.func25, Tryd.ntmps25
  go_wp2_with fail
  obtain ⟨hA, hR, hEE⟩ := HK.out
  clear HK
  generalize ((w.alloc (.cells (dArr ⟨a0, a1, a2, a3, a4, a5, p0, p1, p2, p3, p4, p5⟩) 61)).alloc (.cells #[.bool false, .bool false, .bool false, .bool false, .bool false, .bool false, .int .i64 0, .int .i64 0, .int .i64 0, .int .i64 0, .int .i64 0, .int .i64 0] 61)) = W0 at *
  have HA := Lib.hid hA; have HR := Lib.hid hR; have HEE := Lib.hid hEE
  clear hA hR hEE
  have HS := Lib.hid (show ∀ w', Ext W0 w' → (w'.cell? ⟨w.heap.size, 0, none⟩ = some (.bool a0) ∧ w'.cell? ⟨w.heap.size, 1, none⟩ = some (.bool a1) ∧ w'.cell? ⟨w.heap.size, 2, none⟩ = some (.bool a2) ∧ w'.cell? ⟨w.heap.size, 3, none⟩ = some (.bool a3) ∧ w'.cell? ⟨w.heap.size, 4, none⟩ = some (.bool a4) ∧ w'.cell? ⟨w.heap.size, 5, none⟩ = some (.bool a5) ∧ w'.cell? ⟨w.heap.size, 6, none⟩ = some (.int .i64 (p0)) ∧ w'.cell? ⟨w.heap.size, 7, none⟩ = some (.int .i64 (p1)) ∧ w'.cell? ⟨w.heap.size, 8, none⟩ = some (.int .i64 (p2)) ∧ w'.cell? ⟨w.heap.size, 9, none⟩ = some (.int .i64 (p3)) ∧ w'.cell? ⟨w.heap.size, 10, none⟩ = some (.int .i64 (p4)) ∧ w'.cell? ⟨w.heap.size, 11, none⟩ = some (.int .i64 (p5))) from fun w' h => ⟨(HA.out.ext h).cell 0, (HA.out.ext h).cell 1, (HA.out.ext h).cell 2, (HA.out.ext h).cell 3, (HA.out.ext h).cell 4, (HA.out.ext h).cell 5, (HA.out.ext h).cell 6, (HA.out.ext h).cell 7, (HA.out.ext h).cell 8, (HA.out.ext h).cell 9, (HA.out.ext h).cell 10, (HA.out.ext h).cell 11⟩)
  have hE := (Ext.refl W0).drew
  refine wp_region_U (S := (fun w' => w'.cell? ⟨w.heap.size, 0, none⟩ = some (.bool a0) ∧ w'.cell? ⟨w.heap.size, 1, none⟩ = some (.bool a1) ∧ w'.cell? ⟨w.heap.size, 2, none⟩ = some (.bool a2) ∧ w'.cell? ⟨w.heap.size, 3, none⟩ = some (.bool a3) ∧ w'.cell? ⟨w.heap.size, 4, none⟩ = some (.bool a4) ∧ w'.cell? ⟨w.heap.size, 5, none⟩ = some (.bool a5) ∧ w'.cell? ⟨w.heap.size, 6, none⟩ = some (.int .i64 (p0)) ∧ w'.cell? ⟨w.heap.size, 7, none⟩ = some (.int .i64 (p1)) ∧ w'.cell? ⟨w.heap.size, 8, none⟩ = some (.int .i64 (p2)) ∧ w'.cell? ⟨w.heap.size, 9, none⟩ = some (.int .i64 (p3)) ∧ w'.cell? ⟨w.heap.size, 10, none⟩ = some (.int .i64 (p4)) ∧ w'.cell? ⟨w.heap.size, 11, none⟩ = some (.int .i64 (p5)))) 19 (by kernel_rfl) ?_ (fun hHeld => ?_)
  · (try dsimp only); exact HS.out _ hE
  refine wpAnyU_takeW (i := 0) (oi := { dst := some 3, op := _, type := _, pos := _, after := _, guard := _ }) (v := ?_) (by kernel_rfl) rfl (by kernel_rfl) (by kernel_rfl) (by kernel_rfl) (fun _ _ _ h => h) (Or.inl ⟨by rfl, ?_⟩) (by assumption) ?_
  rotate_left
  · (intro w hSw; (try dsimp only at hSw); go_simp; (try with_reducible rfl))
  (try simp only [Act.put, List.setIfInBounds_toArray, List.set_cons_zero, List.set_cons_succ])
  refine wpAnyU_take (i := 1) (oi := { dst := some 4, op := _, type := _, pos := _, after := _, guard := _ }) (v := ?_) [2, 5, 8, 11, 14, 17, 18, 19, 20, 21, 22, 23, 24, 25, 26, 27, 28, 29] (by kernel_rfl) (by kernel_rfl) (by kernel_rfl) (by kernel_rfl) rfl (by kernel_rfl) (by kernel_rfl) (by kernel_rfl) (fun _ _ _ h => h) (Or.inl ⟨by rfl, ?_⟩) (by assumption) ?_
  rotate_left
  · (intro w hSw; (try dsimp only at hSw); go_simp; (try with_reducible rfl))
  (try simp only [Act.put, List.setIfInBounds_toArray, List.set_cons_zero, List.set_cons_succ])
  refine wpAnyU_takeW (i := 3) (oi := { dst := some 6, op := _, type := _, pos := _, after := _, guard := _ }) (v := ?_) (by kernel_rfl) rfl (by kernel_rfl) (by kernel_rfl) (by kernel_rfl) (fun _ _ _ h => h) (Or.inl ⟨by rfl, ?_⟩) (by assumption) ?_
  rotate_left
  · (intro w hSw; (try dsimp only at hSw); go_simp; (try with_reducible rfl))
  (try simp only [Act.put, List.setIfInBounds_toArray, List.set_cons_zero, List.set_cons_succ])
  refine wpAnyU_take (i := 4) (oi := { dst := some 7, op := _, type := _, pos := _, after := _, guard := _ }) (v := ?_) [5, 8, 11, 14, 17, 18, 19, 20, 21, 22, 23, 24, 25, 26, 27, 28, 29] (by kernel_rfl) (by kernel_rfl) (by kernel_rfl) (by kernel_rfl) rfl (by kernel_rfl) (by kernel_rfl) (by kernel_rfl) (fun _ _ _ h => h) (Or.inl ⟨by rfl, ?_⟩) (by assumption) ?_
  rotate_left
  · (intro w hSw; (try dsimp only at hSw); go_simp; (try with_reducible rfl))
  (try simp only [Act.put, List.setIfInBounds_toArray, List.set_cons_zero, List.set_cons_succ])
  refine wpAnyU_takeW (i := 6) (oi := { dst := some 9, op := _, type := _, pos := _, after := _, guard := _ }) (v := ?_) (by kernel_rfl) rfl (by kernel_rfl) (by kernel_rfl) (by kernel_rfl) (fun _ _ _ h => h) (Or.inl ⟨by rfl, ?_⟩) (by assumption) ?_
  rotate_left
  · (intro w hSw; (try dsimp only at hSw); go_simp; (try with_reducible rfl))
  (try simp only [Act.put, List.setIfInBounds_toArray, List.set_cons_zero, List.set_cons_succ])
  refine wpAnyU_take (i := 7) (oi := { dst := some 10, op := _, type := _, pos := _, after := _, guard := _ }) (v := ?_) [8, 11, 14, 17, 18, 19, 20, 21, 22, 23, 24, 25, 26, 27, 28, 29] (by kernel_rfl) (by kernel_rfl) (by kernel_rfl) (by kernel_rfl) rfl (by kernel_rfl) (by kernel_rfl) (by kernel_rfl) (fun _ _ _ h => h) (Or.inl ⟨by rfl, ?_⟩) (by assumption) ?_
  rotate_left
  · (intro w hSw; (try dsimp only at hSw); go_simp; (try with_reducible rfl))
  (try simp only [Act.put, List.setIfInBounds_toArray, List.set_cons_zero, List.set_cons_succ])
  refine wpAnyU_takeW (i := 9) (oi := { dst := some 12, op := _, type := _, pos := _, after := _, guard := _ }) (v := ?_) (by kernel_rfl) rfl (by kernel_rfl) (by kernel_rfl) (by kernel_rfl) (fun _ _ _ h => h) (Or.inl ⟨by rfl, ?_⟩) (by assumption) ?_
  rotate_left
  · (intro w hSw; (try dsimp only at hSw); go_simp; (try with_reducible rfl))
  (try simp only [Act.put, List.setIfInBounds_toArray, List.set_cons_zero, List.set_cons_succ])
  refine wpAnyU_take (i := 10) (oi := { dst := some 13, op := _, type := _, pos := _, after := _, guard := _ }) (v := ?_) [11, 14, 17, 18, 19, 20, 21, 22, 23, 24, 25, 26, 27, 28, 29] (by kernel_rfl) (by kernel_rfl) (by kernel_rfl) (by kernel_rfl) rfl (by kernel_rfl) (by kernel_rfl) (by kernel_rfl) (fun _ _ _ h => h) (Or.inl ⟨by rfl, ?_⟩) (by assumption) ?_
  rotate_left
  · (intro w hSw; (try dsimp only at hSw); go_simp; (try with_reducible rfl))
  (try simp only [Act.put, List.setIfInBounds_toArray, List.set_cons_zero, List.set_cons_succ])
  refine wpAnyU_takeW (i := 12) (oi := { dst := some 15, op := _, type := _, pos := _, after := _, guard := _ }) (v := ?_) (by kernel_rfl) rfl (by kernel_rfl) (by kernel_rfl) (by kernel_rfl) (fun _ _ _ h => h) (Or.inl ⟨by rfl, ?_⟩) (by assumption) ?_
  rotate_left
  · (intro w hSw; (try dsimp only at hSw); go_simp; (try with_reducible rfl))
  (try simp only [Act.put, List.setIfInBounds_toArray, List.set_cons_zero, List.set_cons_succ])
  refine wpAnyU_take (i := 13) (oi := { dst := some 16, op := _, type := _, pos := _, after := _, guard := _ }) (v := ?_) [14, 17, 18, 19, 20, 21, 22, 23, 24, 25, 26, 27, 28, 29] (by kernel_rfl) (by kernel_rfl) (by kernel_rfl) (by kernel_rfl) rfl (by kernel_rfl) (by kernel_rfl) (by kernel_rfl) (fun _ _ _ h => h) (Or.inl ⟨by rfl, ?_⟩) (by assumption) ?_
  rotate_left
  · (intro w hSw; (try dsimp only at hSw); go_simp; (try with_reducible rfl))
  (try simp only [Act.put, List.setIfInBounds_toArray, List.set_cons_zero, List.set_cons_succ])
  refine wpAnyU_takeW (i := 15) (oi := { dst := some 18, op := _, type := _, pos := _, after := _, guard := _ }) (v := ?_) (by kernel_rfl) rfl (by kernel_rfl) (by kernel_rfl) (by kernel_rfl) (fun _ _ _ h => h) (Or.inl ⟨by rfl, ?_⟩) (by assumption) ?_
  rotate_left
  · (intro w hSw; (try dsimp only at hSw); go_simp; (try with_reducible rfl))
  (try simp only [Act.put, List.setIfInBounds_toArray, List.set_cons_zero, List.set_cons_succ])
  refine wpAnyU_take (i := 16) (oi := { dst := some 19, op := _, type := _, pos := _, after := _, guard := _ }) (v := ?_) [17, 18, 19, 20, 21, 22, 23, 24, 25, 26, 27, 28, 29] (by kernel_rfl) (by kernel_rfl) (by kernel_rfl) (by kernel_rfl) rfl (by kernel_rfl) (by kernel_rfl) (by kernel_rfl) (fun _ _ _ h => h) (Or.inl ⟨by rfl, ?_⟩) (by assumption) ?_
  rotate_left
  · (intro w hSw; (try dsimp only at hSw); go_simp; (try with_reducible rfl))
  (try simp only [Act.put, List.setIfInBounds_toArray, List.set_cons_zero, List.set_cons_succ])
  refine wpAnyU_ready (rs := [2]) (by kernel_rfl) (by simp) ?_
  refine AllReadyU.cons (o := { dst := some 5, op := _, type := _, pos := _, after := _, guard := _ }) rfl (fun K hK => ?_) AllReadyU.nil
  go_simp
  refine (ref_time _ _).mono ?_; rintro e w1 ⟨rfl, hb1⟩; replace hE := hE.trans hb1; clear hb1
  try go_wp2_with fail
  refine hK.out _ _ ?_ (fun hHeld => ?_)
  · (try dsimp only); exact HS.out _ hE
  clear hK K
  (try simp only [Act.put, List.setIfInBounds_toArray, List.set_cons_zero, List.set_cons_succ])
  refine wpAnyU_takeW (i := 18) (oi := { dst := some 21, op := _, type := _, pos := _, after := _, guard := _ }) (v := ?_) (by kernel_rfl) rfl (by kernel_rfl) (by kernel_rfl) (by kernel_rfl) (fun _ _ _ h => h) (Or.inl ⟨by rfl, ?_⟩) (by assumption) ?_
  rotate_left
  · (intro w hSw; (try dsimp only at hSw); go_simp; (try with_reducible rfl))
  (try simp only [Act.put, List.setIfInBounds_toArray, List.set_cons_zero, List.set_cons_succ])
  refine wpAnyU_ready (rs := [5]) (by kernel_rfl) (by simp) ?_
  refine AllReadyU.cons (o := { dst := some 8, op := _, type := _, pos := _, after := _, guard := _ }) rfl (fun K hK => ?_) AllReadyU.nil
  go_simp
  refine (ref_time _ _).mono ?_; rintro e w1 ⟨rfl, hb1⟩; replace hE := hE.trans hb1; clear hb1
  try go_wp2_with fail
  refine hK.out _ _ ?_ (fun hHeld => ?_)
  · (try dsimp only); exact HS.out _ hE
  clear hK K
  (try simp only [Act.put, List.setIfInBounds_toArray, List.set_cons_zero, List.set_cons_succ])
  refine wpAnyU_ready (rs := [8]) (by kernel_rfl) (by simp) ?_
  refine AllReadyU.cons (o := { dst := some 11, op := _, type := _, pos := _, after := _, guard := _ }) rfl (fun K hK => ?_) AllReadyU.nil
  go_simp
  refine (ref_time _ _).mono ?_; rintro e w1 ⟨rfl, hb1⟩; replace hE := hE.trans hb1; clear hb1
  try go_wp2_with fail
  refine hK.out _ _ ?_ (fun hHeld => ?_)
  · (try dsimp only); exact HS.out _ hE
  clear hK K
  (try simp only [Act.put, List.setIfInBounds_toArray, List.set_cons_zero, List.set_cons_succ])
  refine wpAnyU_ready (rs := [11]) (by kernel_rfl) (by simp) ?_
  refine AllReadyU.cons (o := { dst := some 14, op := _, type := _, pos := _, after := _, guard := _ }) rfl (fun K hK => ?_) AllReadyU.nil
  go_simp
  refine (ref_time _ _).mono ?_; rintro e w1 ⟨rfl, hb1⟩; replace hE := hE.trans hb1; clear hb1
  try go_wp2_with fail
  refine hK.out _ _ ?_ (fun hHeld => ?_)
  · (try dsimp only); exact HS.out _ hE
  clear hK K
  (try simp only [Act.put, List.setIfInBounds_toArray, List.set_cons_zero, List.set_cons_succ])
  refine wpAnyU_ready (rs := [14]) (by kernel_rfl) (by simp) ?_
  refine AllReadyU.cons (o := { dst := some 17, op := _, type := _, pos := _, after := _, guard := _ }) rfl (fun K hK => ?_) AllReadyU.nil
  go_simp
  refine (ref_time _ _).mono ?_; rintro e w1 ⟨rfl, hb1⟩; replace hE := hE.trans hb1; clear hb1
  try go_wp2_with fail
  refine hK.out _ _ ?_ (fun hHeld => ?_)
  · (try dsimp only); exact HS.out _ hE
  clear hK K
  (try simp only [Act.put, List.setIfInBounds_toArray, List.set_cons_zero, List.set_cons_succ])
  refine wpAnyU_ready (rs := [17]) (by kernel_rfl) (by simp) ?_
  refine AllReadyU.cons (o := { dst := some 20, op := _, type := _, pos := _, after := _, guard := _ }) rfl (fun K hK => ?_) AllReadyU.nil
  go_simp
  refine (ref_time _ _).mono ?_; rintro e w1 ⟨rfl, hb1⟩; replace hE := hE.trans hb1; clear hb1
  try go_wp2_with fail
  refine hK.out _ _ ?_ (fun hHeld => ?_)
  · (try dsimp only); exact HS.out _ hE
  clear hK K
  (try simp only [Act.put, List.setIfInBounds_toArray, List.set_cons_zero, List.set_cons_succ])
  refine wpAnyU_ready (rs := [19]) (by kernel_rfl) (by simp) ?_
  refine AllReadyU.stop (o := { dst := none, op := _, type := _, pos := _, after := _, guard := _ }) rfl (by kernel_rfl) (fun K hK => ?_) AllReadyU.nil
  have HQ := Lib.hid (HA.out.ext hE); have hfz := HQ.out.frozen; have hcz := HQ.out.cell 6
  go_simp
  skip
  try go_wp2_with fail
  refine hK.out _ _ ?_ (fun hHeld => ?_)
  · (try dsimp only); (try trivial)
  clear hK K
  (try simp only [Act.put, List.setIfInBounds_toArray, List.set_cons_zero, List.set_cons_succ])
  refine wpAnyH_take (i := 20) (oi := { dst := some 22, op := _, type := _, pos := _, after := _, guard := _ }) (v := ?_) rfl (by kernel_rfl) (by kernel_rfl) (by kernel_rfl) (fun _ _ _ h => h) (Or.inl ⟨by rfl, ?_⟩) (by assumption) ?_
  rotate_left
  · (intro w hSw; (try dsimp only at hSw); go_simp; (try with_reducible rfl))
  (try simp only [Act.put, List.setIfInBounds_toArray, List.set_cons_zero, List.set_cons_succ])
  refine wpAnyH_ready (rs := [21]) (by kernel_rfl) (by simp) ?_
  refine AllReadyH.cons (o := { dst := none, op := _, type := _, pos := _, after := _, guard := _ }) rfl (fun K hK => ?_) AllReadyH.nil
  have hfz := (HQ.out.set_ 6 (.int .i64 (nmT p0))).frozen; have hcz := (HQ.out.set_ 6 (.int .i64 (nmT p0))).cell 7
  go_simp
  skip
  try go_wp2_with fail
  refine hK.out _ _ ?_ (fun hHeld => ?_)
  · (try dsimp only); (try trivial)
  clear hK K
  (try simp only [Act.put, List.setIfInBounds_toArray, List.set_cons_zero, List.set_cons_succ])
  refine wpAnyH_take (i := 22) (oi := { dst := some 23, op := _, type := _, pos := _, after := _, guard := _ }) (v := ?_) rfl (by kernel_rfl) (by kernel_rfl) (by kernel_rfl) (fun _ _ _ h => h) (Or.inl ⟨by rfl, ?_⟩) (by assumption) ?_
  rotate_left
  · (intro w hSw; (try dsimp only at hSw); go_simp; (try with_reducible rfl))
  (try simp only [Act.put, List.setIfInBounds_toArray, List.set_cons_zero, List.set_cons_succ])
  refine wpAnyH_ready (rs := [23]) (by kernel_rfl) (by simp) ?_
  refine AllReadyH.cons (o := { dst := none, op := _, type := _, pos := _, after := _, guard := _ }) rfl (fun K hK => ?_) AllReadyH.nil
  have hfz := ((HQ.out.set_ 6 (.int .i64 (nmT p0))).set_ 7 (.int .i64 (nmT p1))).frozen; have hcz := ((HQ.out.set_ 6 (.int .i64 (nmT p0))).set_ 7 (.int .i64 (nmT p1))).cell 8
  go_simp
  skip
  try go_wp2_with fail
  refine hK.out _ _ ?_ (fun hHeld => ?_)
  · (try dsimp only); (try trivial)
  clear hK K
  (try simp only [Act.put, List.setIfInBounds_toArray, List.set_cons_zero, List.set_cons_succ])
  refine wpAnyH_take (i := 24) (oi := { dst := some 24, op := _, type := _, pos := _, after := _, guard := _ }) (v := ?_) rfl (by kernel_rfl) (by kernel_rfl) (by kernel_rfl) (fun _ _ _ h => h) (Or.inl ⟨by rfl, ?_⟩) (by assumption) ?_
  rotate_left
  · (intro w hSw; (try dsimp only at hSw); go_simp; (try with_reducible rfl))
  (try simp only [Act.put, List.setIfInBounds_toArray, List.set_cons_zero, List.set_cons_succ])
  refine wpAnyH_ready (rs := [25]) (by kernel_rfl) (by simp) ?_
  refine AllReadyH.cons (o := { dst := none, op := _, type := _, pos := _, after := _, guard := _ }) rfl (fun K hK => ?_) AllReadyH.nil
  have hfz := (((HQ.out.set_ 6 (.int .i64 (nmT p0))).set_ 7 (.int .i64 (nmT p1))).set_ 8 (.int .i64 (nmT p2))).frozen; have hcz := (((HQ.out.set_ 6 (.int .i64 (nmT p0))).set_ 7 (.int .i64 (nmT p1))).set_ 8 (.int .i64 (nmT p2))).cell 9
  go_simp
  skip
  try go_wp2_with fail
  refine hK.out _ _ ?_ (fun hHeld => ?_)
  · (try dsimp only); (try trivial)
  clear hK K
  (try simp only [Act.put, List.setIfInBounds_toArray, List.set_cons_zero, List.set_cons_succ])
  refine wpAnyH_take (i := 26) (oi := { dst := some 25, op := _, type := _, pos := _, after := _, guard := _ }) (v := ?_) rfl (by kernel_rfl) (by kernel_rfl) (by kernel_rfl) (fun _ _ _ h => h) (Or.inl ⟨by rfl, ?_⟩) (by assumption) ?_
  rotate_left
  · (intro w hSw; (try dsimp only at hSw); go_simp; (try with_reducible rfl))
  (try simp only [Act.put, List.setIfInBounds_toArray, List.set_cons_zero, List.set_cons_succ])
  refine wpAnyH_ready (rs := [27]) (by kernel_rfl) (by simp) ?_
  refine AllReadyH.cons (o := { dst := none, op := _, type := _, pos := _, after := _, guard := _ }) rfl (fun K hK => ?_) AllReadyH.nil
  have hfz := ((((HQ.out.set_ 6 (.int .i64 (nmT p0))).set_ 7 (.int .i64 (nmT p1))).set_ 8 (.int .i64 (nmT p2))).set_ 9 (.int .i64 (nmT p3))).frozen; have hcz := ((((HQ.out.set_ 6 (.int .i64 (nmT p0))).set_ 7 (.int .i64 (nmT p1))).set_ 8 (.int .i64 (nmT p2))).set_ 9 (.int .i64 (nmT p3))).cell 10
  go_simp
  skip
  try go_wp2_with fail
  refine hK.out _ _ ?_ (fun hHeld => ?_)
  · (try dsimp only); (try trivial)
  clear hK K
  (try simp only [Act.put, List.setIfInBounds_toArray, List.set_cons_zero, List.set_cons_succ])
  refine wpAnyH_take (i := 28) (oi := { dst := some 26, op := _, type := _, pos := _, after := _, guard := _ }) (v := ?_) rfl (by kernel_rfl) (by kernel_rfl) (by kernel_rfl) (fun _ _ _ h => h) (Or.inl ⟨by rfl, ?_⟩) (by assumption) ?_
  rotate_left
  · (intro w hSw; (try dsimp only at hSw); go_simp; (try with_reducible rfl))
  (try simp only [Act.put, List.setIfInBounds_toArray, List.set_cons_zero, List.set_cons_succ])
  refine wpAnyH_ready (rs := [29]) (by kernel_rfl) (by simp) ?_
  refine AllReadyH.cons (o := { dst := none, op := _, type := _, pos := _, after := _, guard := _ }) rfl (fun K hK => ?_) AllReadyH.nil
  have hfz := (((((HQ.out.set_ 6 (.int .i64 (nmT p0))).set_ 7 (.int .i64 (nmT p1))).set_ 8 (.int .i64 (nmT p2))).set_ 9 (.int .i64 (nmT p3))).set_ 10 (.int .i64 (nmT p4))).frozen; have hcz := (((((HQ.out.set_ 6 (.int .i64 (nmT p0))).set_ 7 (.int .i64 (nmT p1))).set_ 8 (.int .i64 (nmT p2))).set_ 9 (.int .i64 (nmT p3))).set_ 10 (.int .i64 (nmT p4))).cell 11
  go_simp
  skip
  try go_wp2_with fail
  refine hK.out _ _ ?_ (fun hHeld => ?_)
  · (try dsimp only); (try trivial)
  clear hK K
  (try simp only [Act.put, List.setIfInBounds_toArray, List.set_cons_zero, List.set_cons_succ])
  refine wpAnyH_done (by kernel_rfl) ?_ _
  have hY := ((((((HQ.out.set_ 6 (.int .i64 (nmT p0))).set_ 7 (.int .i64 (nmT p1))).set_ 8 (.int .i64 (nmT p2))).set_ 9 (.int .i64 (nmT p3))).set_ 10 (.int .i64 (nmT p4))).set_ 11 (.int .i64 (nmT p5)))
  have hX := (((((((ExtB.refl w.heap.size w1).set_ 6 (.int .i64 (nmT p0))).set_ 7 (.int .i64 (nmT p1))).set_ 8 (.int .i64 (nmT p2))).set_ 9 (.int .i64 (nmT p3))).set_ 10 (.int .i64 (nmT p4))).set_ 11 (.int .i64 (nmT p5)))
  have HRr := Lib.hid ((HR.out.ext hE).grown hX (by simp))
  have HF := Lib.hid ((HEE.out.trans hE).growB hX (Nat.le_refl _))
  have hY : Blk _ w.heap.size 61 (dArr (nmD ⟨a0, a1, a2, a3, a4, a5, p0, p1, p2, p3, p4, p5⟩)) := hY
  go_wp2_with (first
    | (refine wpList_loadB rfl 61 (.tmp 1) rfl w.heap.size rfl 61 _ hY _ Tryd.underlying61 infoD ?_)
    | (refine wpList_storeB rfl 61 (.tmp 2) (.tmp 27) rfl rfl (w.heap.size + 1) _ rfl rfl 61 _ HRr.out infoD rfl (dArr_one (nmD ⟨a0, a1, a2, a3, a4, a5, p0, p1, p2, p3, p4, p5⟩)) ?_; intro w9 hB9 hx9))
  exact bodyPost_ret (v := .agg (dArr (nmD ⟨a0, a1, a2, a3, a4, a5, p0, p1, p2, p3, p4, p5⟩))) (results_cell_row rfl _ _ (w.heap.size + 1) 61 _ (0, 0) _ rfl hB9 Tryd.underlying61 rfl infoD) rfl ⟨rfl, HF.out.growB hx9 (by omega)⟩

end Go.Proofs.YtocniclkooiggaaDoor

namespace Go.Proofs.YtocniclkooiggaaDoor
open Go.RowKit

theorem yield_eql {P : Program} {ops : Array Oper} {o : Oper} {a : Act} {S : World → Prop} (hgd : o.guard = none) (t u : TypeId) (x y : Operand) (ho : o.op = .binOp .eql t x y u) (vx vy : Array Value) (b : Value) (hx : a.eval x = .agg vx) (hy : a.eval y = .agg vy) (hm : P.eqGuardType P.depth t = false)
    (h : ∀ w, (binOp .eql t (.agg vx) (.agg vy)).run P w = .ok b w) : YieldsIf P ops S o b a := by
  refine .inl ⟨by simp [Region.wanted, hgd], fun w _ => ?_⟩
  unfold execOp
  simp only [ho, hx, hy, Sem.run_bind, Sem.run_pure, run_eqGuard_agg (hm := hm), h, Result.andThen_ok]

set_option maxHeartbeats 1000000 in
set_option maxRecDepth 100000 in
theorem law_Program (d : D) (w : World) : Calls Tryd.prog 23 #[.agg (dArr d)] w fun e w' => e = .returned (.agg (dArr d)) ∧ Ext w w' := by
  have hB := Lib.hid (Blk.new (w.alloc (.cells (dArr d) 61)) 50 (dArr zeroD))
  rw [World.size_alloc] at hB
  go_enter Tryd.func23, Tryd.ntmps23
  unfold dArr
  go_wp2_with (first
    | (refine wpList_storeB rfl 50 (.tmp 2) (.tmp 27) rfl rfl (w.heap.size + 1) _ rfl rfl 50 _ hB.out infoDp rfl (dArr_one d) ?_; intro w9 hB9 hx9))
  exact bodyPost_ret (v := .agg (dArr d)) (results_cell_row rfl _ _ (w.heap.size + 1) 50 _ (0, 0) _ rfl hB9 Tryd.underlying50 rfl infoDp) rfl ⟨rfl, (((Ext.refl w).alloc _).alloc _).growB hx9 (by omega)⟩

end Go.Proofs.YtocniclkooiggaaDoor

namespace Go.Proofs.YtocniclkooiggaaDoor
open Go

section
variable {P : Program} {ops : Array Oper} {Q : Exit → Act → World → Prop} {md : Region.Mode} {S : World → Prop}
theorem wpAnyH_inv {I : Nat → Array Bool → Act → World → Prop} (k : Nat)
    (hend : ∀ listed a w, I 0 listed a w → wpAnyH P md ops Q S k listed a w)
    (hstep : ∀ n listed a w, I (n + 1) listed a w → Region.ready md ops listed ≠ [] ∧ ∀ i ∈ Region.ready md ops listed, wpOp P ops Q i (fun a' w' => S w' ∧ I n (listed.setIfInBounds i true) a' w') a w) :
    ∀ n listed a w, I n listed a w → wpAnyH P md ops Q S (k + n) listed a w
  | 0, _, _, _, h => hend _ _ _ h
  | n + 1, listed, a, w, h => ⟨fun e => absurd e (hstep n listed a w h).1, fun i hi => wpOp_mono (fun a' w' h' => ⟨h'.1, wpAnyH_inv k hend hstep n _ _ _ h'.2⟩) ((hstep n listed a w h).2 i hi)⟩
theorem inv_step {listed : Array Bool} {J : Nat → Act → World → Prop} {a : Act} {w : World} (rs : List Nat) (hr : Region.ready md ops listed = rs) (hne : rs ≠ [])
    (h : ∀ i ∈ rs, wpOp P ops Q i (J i) a w) : Region.ready md ops listed ≠ [] ∧ ∀ i ∈ Region.ready md ops listed, wpOp P ops Q i (J i) a w := by
  subst hr; exact ⟨hne, h⟩
theorem inv_op {J : Act → World → Prop} {a : Act} {w : World} {i : Nat} {o : Oper} (ho : ops[i]? = some o)
    (h : ∀ K' : Act → World → Prop, Shut (∀ a w, J a w → K' a w) → if Region.wanted o (yielded ops a.tmps) = true then Oper.wp P o a w K' Q else K' (a.put o.dst undef) w) :
    wpOp P ops Q i J a w := wpOp_step ho (fun K' hK => h K' (fun a w hJ => hK a w hJ))
end
end Go.Proofs.YtocniclkooiggaaDoor

namespace Go.Proofs.YtocniclkooiggaaDoor
open Go.RowKit

theorem Rd.lowF {w : World} {A : Option Addr} {n : Nat} {fs : List Fd} (h : RdF w A n fs) (h0 : 0 < n) : ∀ a, A = some a → a.block < w.heap.size := by
  intro a ha
  have hl := h.lenF
  obtain ⟨b, o, e, hc, _⟩ := h.atF (k := 0) (by omega)
  rw [ha] at e
  injection e with e
  subst e
  exact World.block_lt_of_cell? w _ hc
theorem Rd.growZ {b : Nat} {w w' : World} {A : Option Addr} {n : Nat} {fs : List Fd} (h : RdF w A n fs) (hg : ExtB b w w') (hne : 0 < n → ∀ a, A = some a → a.block ≠ b) : RdF w' A n fs := by
  rcases Nat.eq_zero_or_pos n with h0 | h0
  · have hl := h.1
    refine ⟨hl, fun hp => ?_⟩
    rw [h0, Nat.zero_mul] at hl
    omega
  · exact Rd.growB h hg (hne h0)

theorem fld_n0 (D : D) (w : World) : (Instr.field 61 (.agg (dArr D)) 6).run Tryd.prog w = .ok (.int .i64 D.n0) w := by kernel_rfl
theorem infoMo : (Tryd.prog.info? 63).map (·.size) = some 2 := by kernel_rfl

set_option maxHeartbeats 16000000 in
set_option maxRecDepth 100000 in
theorem stricter_walk (st : Int) (A : Option Addr) (n c : Nat) (fs : List Fd) (se re ag : Int) (hv : Bool) (q : D) (now ppm : Int) (w : World) (hf : RdF w A n fs) (hbk : fs.length + sumF fs ≤ 1048576) (hg : GlH w) (hgl : Gl w) :
    Calls Tryd.prog 4 #[.agg #[.int .i64 st, .slice A n c, .int .i64 se, .int .i64 re, .int .i64 ag, .bool hv], .agg (dArr q), .agg #[.int .i64 now, .int .i64 ppm]] w fun e w' => e = .returned (.bool true) ∧ Ext w w' := by
  have HBs := Lib.hid (((Blk.new w 60 #[.int .i64 st, .slice A n c, .int .i64 se, .int .i64 re, .int .i64 ag, .bool hv]).alloc (.cells (dArr q) 61)).alloc (.cells #[.int .i64 now, .int .i64 ppm] 63))
  have HBq := Lib.hid ((show Blk ((w.alloc (.cells #[.int .i64 st, .slice A n c, .int .i64 se, .int .i64 re, .int .i64 ag, .bool hv] 60)).alloc (.cells (dArr q) 61)) (w.heap.size + 1) 61 (dArr q) by
    have h := Blk.new (w.alloc (.cells #[.int .i64 st, .slice A n c, .int .i64 se, .int .i64 re, .int .i64 ag, .bool hv] 60)) 61 (dArr q)
    rw [World.size_alloc] at h; exact h).alloc (.cells #[.int .i64 now, .int .i64 ppm] 63))
  have HBm := Lib.hid (show Blk (((w.alloc (.cells #[.int .i64 st, .slice A n c, .int .i64 se, .int .i64 re, .int .i64 ag, .bool hv] 60)).alloc (.cells (dArr q) 61)).alloc (.cells #[.int .i64 now, .int .i64 ppm] 63)) (w.heap.size + 1 + 1) 63 #[.int .i64 now, .int .i64 ppm] by
    have h := Blk.new ((w.alloc (.cells #[.int .i64 st, .slice A n c, .int .i64 se, .int .i64 re, .int .i64 ag, .bool hv] 60)).alloc (.cells (dArr q) 61)) 63 #[.int .i64 now, .int .i64 ppm]
    rw [World.size_alloc, World.size_alloc] at h; exact h)
  have HE := Lib.hid ((((Ext.refl w).alloc (.cells #[.int .i64 st, .slice A n c, .int .i64 se, .int .i64 re, .int .i64 ag, .bool hv] 60)).alloc (.cells (dArr q) 61)).alloc (.cells #[.int .i64 now, .int .i64 ppm] 63))
  have Hj1 := Lib.hid (strict_cache ⟨st, fs, ⟨se, re, ag⟩, hv⟩ q now ppm)
  have Hj2 := Lib.hid (strict_age ⟨st, fs, ⟨se, re, ag⟩, hv⟩ q now ppm)
  have Hj3 := Lib.hid (strict_fresh ⟨st, fs, ⟨se, re, ag⟩, hv⟩ q now ppm)
  go_enter Tryd.func4, Tryd.ntmps4
  go_wp2_with fail
  generalize ((w.alloc (.cells #[.int .i64 st, .slice A n c, .int .i64 se, .int .i64 re, .int .i64 ag, .bool hv] 60)).alloc (.cells (dArr q) 61)).alloc (.cells #[.int .i64 now, .int .i64 ppm] 63) = W0 at *
  generalize hbq : w.heap.size = b at *
  refine (law17_large A n c fs _ (hf.ext HE.out) hbk).mono ?_; rintro e w1 ⟨rfl, hb1⟩
  cases hlg : lg17 fs
  rotate_left
  · have s1 := (HBs.out.ext hb1).cell 1
    go_wp2_with fail
    refine (law17_large A n c fs _ (hf.ext (HE.out.trans hb1)) hbk).mono ?_; rintro e w2 ⟨rfl, hb2⟩
    rw [hlg]
    go_wp2_with fail
    go_ret
    exact ⟨rfl, HE.out.trans (hb1.trans hb2)⟩
  have Hs := Lib.hid (lg_no17 hlg)
  have Hbs := Lib.hid ((bsz_of_sumF fs).mono (show sumF fs ≤ 1048576 by omega))
  have hn : n ≤ 3000 := by have := hf.lenF; have := Hs.out; omega
  have Hm := Lib.hid hn
  clear hlg hbk hn
  go_wp2_with fail
  refine (law17_awake _ (hg.ext (HE.out.trans hb1)) (hgl.ext (HE.out.trans hb1))).mono ?_; rintro e w2 ⟨rfl, hb2⟩
  have HW2 := Lib.hid (hb1.trans hb2)
  clear hb1 hb2
  go_wp2_with fail
  have hE := HW2.out.drew
  have HSt := Lib.hid (fun w' (h : Ext W0 w') => law17_Stored st A n c fs se re ag hv w' (hf.ext (HE.out.trans h)) (by have := Hm.out; omega))
  refine wp_region_held_drew (S := (fun w' => Blk w' b 60 #[.int .i64 st, .slice A n c, .int .i64 se, .int .i64 re, .int .i64 ag, .bool hv] ∧ Blk w' (b + 1) 61 (dArr q))) (by kernel_rfl) ?_ (fun hHeld => ?_)
  · (try dsimp only); exact ⟨HBs.out.ext hE, HBq.out.ext hE⟩
  refine wpAnyH_take (i := 0) (oi := { dst := some 22, op := _, type := _, pos := _, after := _, guard := _ }) (v := .agg #[.int .i64 st, .slice A n c, .int .i64 se, .int .i64 re, .int .i64 ag, .bool hv]) rfl (by kernel_rfl) (by kernel_rfl) (by kernel_rfl) (fun _ _ _ h => h) (yield_loadB rfl 60 (.tmp 3) rfl (b) rfl 60 _ (fun w h => h.1) _ Tryd.underlying60 infoRs) (by assumption) ?_
  (try simp only [Act.put, List.setIfInBounds_toArray, List.set_cons_zero, List.set_cons_succ])
  refine wpAnyH_take (i := 2) (oi := { dst := some 24, op := _, type := _, pos := _, after := _, guard := _ }) (v := .agg (dArr q)) rfl (by kernel_rfl) (by kernel_rfl) (by kernel_rfl) (fun _ _ _ h => h) (yield_loadB rfl 61 (.tmp 4) rfl (b + 1) rfl 61 _ (fun w h => h.2) _ Tryd.underlying61 infoD) (by assumption) ?_
  (try simp only [Act.put, List.setIfInBounds_toArray, List.set_cons_zero, List.set_cons_succ])
  refine (wpAnyH_inv (I := (fun m listed a w1 => ∃ (k : Nat) (ba bb : Bool) (ga gb : Nat) (va vb vx vy : Value) (A2 : Option Addr) (c2 : Nat), m = (2 - k) + (bif ba then 0 else 1) + (bif bb then 0 else 1) ∧ k ≤ 2 ∧ listed = #[true, decide (1 ≤ k), true, decide (2 ≤ k), ba, bb, false, false] ∧ a = { tmps := #[.agg #[.int .i64 st, .slice A n c, .int .i64 se, .int .i64 re, .int .i64 ag, .bool hv], .agg (dArr q), .agg #[.int .i64 now, .int .i64 ppm], .pointer (some ⟨b, 0, none⟩), .pointer (some ⟨b + 1, 0, none⟩), .pointer (some ⟨b + 1 + 1, 0, none⟩), .bool false, va, vb, undef, undef, undef, .pointer (some ⟨b, 1, none⟩), .slice A n c, .bool false, .bool false, .bool true, .bool false, .bool false, undef, undef, undef, .agg #[.int .i64 st, .slice A n c, .int .i64 se, .int .i64 re, .int .i64 ag, .bool hv], vx, .agg (dArr q), vy, undef, undef, undef, undef, undef, undef, undef, undef, undef, undef, undef, undef, undef, undef, undef, undef, undef, undef, undef, undef, undef, undef, undef, undef, undef, undef, undef, undef, undef, undef, undef, undef, undef, undef, undef, undef, undef, undef, undef, undef, undef, undef, undef, undef], defers := [] } ∧ Ext W0 w1 ∧
      (1 ≤ k → vx = .agg #[.int .i64 st, .slice A2 n c2, .int .i64 se, .int .i64 re, .int .i64 ag, .bool hv] ∧ RdF w1 A2 n fs) ∧ (2 ≤ k → vy = .agg (dArr q) ∧ True) ∧
      (ba = true → va = .pointer (some ⟨ga, 0, none⟩) ∧ Blk w1 ga 34 #[.int .i64 0, .slice none 0 0, .int .i64 0, .int .i64 0, .int .i64 0, .bool false] ∧ W0.heap.size ≤ ga) ∧ (bb = true → vb = .pointer (some ⟨gb, 0, none⟩) ∧ Blk w1 gb 50 (dArr zeroD) ∧ W0.heap.size ≤ gb) ∧
      (ba = true → bb = true → ga ≠ gb) ∧ (1 ≤ k → ba = true → 0 < n → ∀ a, A2 = some a → a.block ≠ ga) ∧ (1 ≤ k → bb = true → 0 < n → ∀ a, A2 = some a → a.block ≠ gb))) 2 ?_ ?_ 4 _ _ _ ?_ : _)
  rotate_left 2
  · exact ⟨0, false, false, 0, 0, undef, undef, undef, undef, none, 0, rfl, by decide, rfl, rfl, hE, (fun h => by omega), (fun h => by omega), (fun h => by cases h), (fun h => by cases h), (fun h => by cases h), (fun _ h => by cases h), (fun _ h => by cases h)⟩
  · rintro listed a w1 ⟨k, ba, bb, ga, gb, va, vb, vx, vy, A2, c2, hn, hc, rfl, rfl, hE1, kx, ky, ka, kb, dab, sxa, sxb⟩
    obtain ⟨rfl, rfl, rfl⟩ : k = 2 ∧ ba = true ∧ bb = true := by cases ba <;> cases bb <;> simp at hn ⊢ <;> omega
    obtain ⟨rfl, hx1⟩ := kx (by decide)
    obtain ⟨rfl, hy1⟩ := ky (by decide)
    obtain ⟨rfl, hba, hwa⟩ := ka rfl
    obtain ⟨rfl, hbb, hwb⟩ := kb rfl
    have hab := dab rfl rfl
    have Sxa := Lib.hid (sxa (by decide) rfl); have Sxb := Lib.hid (sxb (by decide) rfl)
    clear kx ky ka kb dab hn hc hE sxa sxb
    refine wpAnyH_ready (rs := [6]) (by kernel_rfl) (by simp) ?_
    refine AllReadyH.cons (o := { dst := none, op := _, type := _, pos := _, after := _, guard := _ }) rfl (fun K hK => ?_) AllReadyH.nil
    refine step_storeB rfl 34 (.tmp 7) (.tmp 23) rfl rfl ga _ rfl rfl 34 _ hba infoSt rfl (by simp [Value.oneCell']) ?_; intro w4 hNga hXga
    replace hE1 := hE1.growB hXga hwa
    replace hbb := hbb.grown hXga (by simp; omega)
    replace hx1 := Rd.growZ hx1 hXga Sxa.out
    refine hK.out _ _ ⟨HBs.out.ext hE1, HBq.out.ext hE1⟩ (fun hHeld => ?_)
    clear hK K
    (try simp only [Act.put, List.setIfInBounds_toArray, List.set_cons_zero, List.set_cons_succ])
    refine wpAnyH_ready (rs := [7]) (by kernel_rfl) (by simp) ?_
    refine AllReadyH.cons (o := { dst := none, op := _, type := _, pos := _, after := _, guard := _ }) rfl (fun K hK => ?_) AllReadyH.nil
    refine step_storeB rfl 50 (.tmp 8) (.tmp 25) rfl rfl gb _ rfl rfl 50 _ hbb infoDp rfl (dArr_one q) ?_; intro w9 hNgb hXgb
    replace hE1 := hE1.growB hXgb hwb
    replace hNga := hNga.grown hXgb (by simp; omega)
    replace hx1 := Rd.growZ hx1 hXgb Sxb.out
    refine hK.out _ _ ⟨HBs.out.ext hE1, HBq.out.ext hE1⟩ (fun hHeld => ?_)
    clear hK K
    (try simp only [Act.put, List.setIfInBounds_toArray, List.set_cons_zero, List.set_cons_succ])
    refine wpAnyH_done (by kernel_rfl) ?_ _
    have HE9 := Lib.hid hE1; have HA9 := Lib.hid hNga; have HB9 := Lib.hid hNgb; have Hw9 := Lib.hid (⟨hab, hwa, hwb⟩ : _ ∧ _ ∧ _)
    have HX9 := Lib.hid hx1
    clear hE1 hNga hNgb hab hwa hwb hx1 hy1 hXga hXgb hbb hba hHeld Sxa Sxb
    clear HBs
    have HM9 := Lib.hid (HBm.out.ext HE9.out); have HQ9 := Lib.hid (HBq.out.ext HE9.out)
    have m0 := HM9.out.cell 0
    have m1 := HM9.out.cell 1
    clear HBm HBq
    have Hlt := Lib.hid (⟨HE9.out.size, HA9.out.lt, HB9.out.lt, HM9.out.lt, HQ9.out.lt⟩ : _ ∧ _ ∧ _ ∧ _ ∧ _)
    go_wp2_with (first
          | (refine wpList_loadB rfl 34 (.tmp 7) rfl ga rfl 34 _ HA9.out _ Tryd.underlying34 infoSt ?_)
          | (refine wpList_loadB rfl 50 (.tmp 8) rfl gb rfl 50 _ HB9.out _ Tryd.underlying50 infoDp ?_))
    refine (law17_rank st A2 n c2 fs se re ag hv q now ppm _ HX9.out (by have := Hm.out; omega) Hbs.out (hg.ext (HE.out.trans HE9.out)) (by have := Hs.out; have := Hm.out; omega) (hgl.ext (HE.out.trans HE9.out))).mono ?_; rintro e wA ⟨rfl, hbA⟩
    have HAA := Lib.hid (HA9.out.ext hbA); have HBA := Lib.hid (HB9.out.ext hbA); have HMA := Lib.hid (HM9.out.ext hbA); have HQA := Lib.hid (HQ9.out.ext hbA); have HXA := Lib.hid (HX9.out.ext hbA); have HEA := Lib.hid (HE9.out.trans hbA)
    have HltA := Lib.hid (⟨hbA.size, fun h0 : 0 < n => Rd.lowF HXA.out h0⟩ : _ ∧ _)
    generalize hJ0 : jdS ⟨st, fs, ⟨se, re, ag⟩, hv⟩ q now ppm = j0 at *
    clear m0 m1 hbA hJ0
    go_wp2_with (first
        | (refine wpList_loadB rfl 50 (.tmp 8) rfl gb rfl 50 _ HBA.out _ Tryd.underlying50 infoDp ?_)
        | (refine wpList_storeB rfl 50 (.tmp 10) (.tmp 30) rfl rfl wA.heap.size _ rfl rfl 50 _ (Blk.new wA _ _) infoDp rfl (dArr_one q) ?_; intro wC hNC hXC; have hfz := hNC.frozen; have hc1 : wC.cell? ⟨wA.heap.size, 1, none⟩ = some (.bool q.b1) := hNC.cell 1; have hND : Blk (wC.setCell ⟨wA.heap.size, 1, none⟩ (.bool true)) wA.heap.size 50 (dArr { q with b1 := true }) := hNC.set_ 1 (.bool true); have hAD := ((Ext.refl wA).alloc (.cells (dArr zeroD) 50)).growB (hXC.set_ 1 (.bool true)) (Nat.le_refl _); have HAD := Lib.hid (HAA.out.ext hAD); have HBD := Lib.hid (HBA.out.ext hAD); have HMD := Lib.hid (HMA.out.ext hAD); have HQD := Lib.hid (HQA.out.ext hAD); have HXD := Lib.hid (HXA.out.ext hAD); have HED := Lib.hid (HEA.out.trans hAD); have n0 := HMD.out.cell 0; have n1 := HMD.out.cell 1)
        | (refine wpList_loadB rfl 34 (.tmp 7) rfl ga rfl 34 _ HAD.out _ Tryd.underlying34 infoSt ?_)
        | (refine wpList_loadB rfl 50 (.tmp 10) rfl wA.heap.size rfl 50 _ hND _ Tryd.underlying50 infoDp ?_))
    have HND := Lib.hid hND
    have hltD := hND.lt
    clear hND hNC hXC hfz hc1 n0 n1 hAD
    generalize wC.setCell ⟨wA.heap.size, 1, none⟩ (.bool true) = wD at *
    obtain ⟨hab, hwa, hwb⟩ := Hw9.out
    obtain ⟨z1, z2, z3, z4, z5⟩ := Hlt.out
    obtain ⟨z6, z7⟩ := HltA.out
    have Hsn := Lib.hid (show 0 < n → ∀ a, A2 = some a → a.block ≠ wA.heap.size from fun h0 a ha => by have := z7 h0 a ha; omega)
    clear z7
    generalize wA.heap.size = bn at *
    refine (law17_rank st A2 n c2 fs se re ag hv { q with b1 := true } now ppm _ HXD.out (by have := Hm.out; omega) Hbs.out (hg.ext (HE.out.trans HED.out)) (by have := Hs.out; have := Hm.out; omega) (hgl.ext (HE.out.trans HED.out))).mono ?_; rintro e wF ⟨rfl, hbF⟩
    have HAF := Lib.hid (HAD.out.ext hbF); have HBF := Lib.hid (HBD.out.ext hbF); have HMF := Lib.hid (HMD.out.ext hbF); have HQF := Lib.hid (HQD.out.ext hbF); have HXF := Lib.hid (HXD.out.ext hbF); have HEF := Lib.hid (HED.out.trans hbF)
    have HNF := Lib.hid (HND.out.ext hbF)
    obtain ⟨j1a, j1b⟩ := Hj1.out
    generalize jdS ⟨st, fs, ⟨se, re, ag⟩, hv⟩ { q with b1 := true } now ppm = j1 at *
    have j1c : ¬ j1 < j0 := by omega
    have j1d : ¬ j1 < 4 := by omega
    go_wp2_with (first
        | (refine wpList_loadB rfl 50 (.tmp 8) rfl gb rfl 50 _ HBF.out _ Tryd.underlying50 infoDp ?_)
        | (refine wpList_storeB rfl 50 (.tmp 10) (.tmp 43) rfl rfl bn _ rfl rfl 50 _ HNF.out infoDp rfl (dArr_one q) ?_; intro wG hNG hXG)
        | (refine wpList_loadB rfl 61 (.tmp 4) rfl (b + 1) rfl 61 _ (HQF.out.grown hXG (by simp; omega)) _ Tryd.underlying61 infoD ?_))
    have HAG := Lib.hid (HAF.out.grown hXG (by simp; omega)); have HBG := Lib.hid (HBF.out.grown hXG (by simp; omega)); have HMG := Lib.hid (HMF.out.grown hXG (by simp; omega)); have HQG := Lib.hid (HQF.out.grown hXG (by simp; omega)); have HXG := Lib.hid (Rd.growZ HXF.out hXG Hsn.out); have HEG := Lib.hid (HEF.out.growB hXG (by omega))
    have HNG := Lib.hid hNG
    clear hNG hXG j1a j1b j1c j1d
    refine (ref_Normal q _).mono ?_; rintro e wH ⟨rfl, hbH⟩
    have HAH := Lib.hid (HAG.out.ext hbH); have HBH := Lib.hid (HBG.out.ext hbH); have HMH := Lib.hid (HMG.out.ext hbH); have HQH := Lib.hid (HQG.out.ext hbH); have HXH := Lib.hid (HXG.out.ext hbH); have HEH := Lib.hid (HEG.out.trans hbH)
    have HNH := Lib.hid (HNG.out.ext hbH)
    have hfd : ∀ w, (Instr.field 61 (.agg (dArr (nmD q))) 6).run Tryd.prog w = .ok (.int .i64 (nmT q.n0)) w := fun w => fld_n0 _ w
    have hfz := HNH.out.frozen
    have hc6 : wH.cell? ⟨bn, 6, none⟩ = some (.int .i64 q.n0) := HNH.out.cell 6
    have hg6 : wH.cell? ⟨gb, 6, none⟩ = some (.int .i64 q.n0) := HBH.out.cell 6
    have HNI := Lib.hid (show Blk (wH.setCell ⟨bn, 6, none⟩ (.int .i64 ((nmT q.n0).tdiv 2))) bn 50 (dArr { q with n0 := (nmT q.n0).tdiv 2 }) from HNH.out.set_ 6 (.int .i64 ((nmT q.n0).tdiv 2)))
    have hxI := (ExtB.refl bn wH).set_ 6 (.int .i64 ((nmT q.n0).tdiv 2))
    have HAI := Lib.hid (HAH.out.grown hxI (by simp; omega)); have HBI := Lib.hid (HBH.out.grown hxI (by simp; omega)); have HMI := Lib.hid (HMH.out.grown hxI (by simp; omega)); have HQI := Lib.hid (HQH.out.grown hxI (by simp; omega)); have HXI := Lib.hid (Rd.growZ HXH.out hxI Hsn.out); have HEI := Lib.hid (HEH.out.growB hxI (by omega))
    have hg6I : (wH.setCell ⟨bn, 6, none⟩ (.int .i64 ((nmT q.n0).tdiv 2))).cell? ⟨gb, 6, none⟩ = some (.int .i64 q.n0) := HBI.out.cell 6
    have nb : -1 ≤ nmT q.n0 ∧ nmT q.n0 ≤ 2147483647 := by unfold nmT; omega
    obtain ⟨nb0, nb1⟩ := nb
    have td : -1 ≤ (nmT q.n0).tdiv 2 ∧ (nmT q.n0).tdiv 2 ≤ 2147483647 := by
      rcases Int.lt_or_le (nmT q.n0) 0 with h | h
      · rw [show nmT q.n0 = -1 by omega]; decide
      · rw [Int.tdiv_eq_ediv_of_nonneg h]; omega
    obtain ⟨td0, td1⟩ := td
    generalize hV : (nmT q.n0).tdiv 2 = V at *
    generalize nmT q.n0 = M0 at *
    by_cases hq0 : q.n0 < 0
    · have Hq2 := Lib.hid (show jdS ⟨st, fs, ⟨se, re, ag⟩, hv⟩ { q with n0 := if q.n0 < 0 then 3 else V } now ppm = jdS ⟨st, fs, ⟨se, re, ag⟩, hv⟩ { q with n0 := 3 } now ppm by rw [if_pos hq0])
      have hfzI := HNI.out.frozen
      have hcI : (wH.setCell ⟨bn, 6, none⟩ (.int .i64 V)).cell? ⟨bn, 6, none⟩ = some (.int .i64 V) := HNI.out.cell 6
      have HNJ := Lib.hid (show Blk ((wH.setCell ⟨bn, 6, none⟩ (.int .i64 V)).setCell ⟨bn, 6, none⟩ (.int .i64 3)) bn 50 (dArr { q with n0 := 3 }) from HNI.out.set_ 6 (.int .i64 3))
      have hxJ := (ExtB.refl bn (wH.setCell ⟨bn, 6, none⟩ (.int .i64 V))).set_ 6 (.int .i64 3)
      have HAJ := Lib.hid (HAI.out.grown hxJ (by simp; omega)); have HBJ := Lib.hid (HBI.out.grown hxJ (by simp; omega)); have HMJ := Lib.hid (HMI.out.grown hxJ (by simp; omega)); have HQJ := Lib.hid (HQI.out.grown hxJ (by simp; omega)); have HXJ := Lib.hid (Rd.growZ HXI.out hxJ Hsn.out); have HEJ := Lib.hid (HEI.out.growB hxJ (by omega))
      have m0 := HMJ.out.cell 0
      have m1 := HMJ.out.cell 1
      go_wp2_with (first
          | (refine wpList_loadB rfl 34 (.tmp 7) rfl ga rfl 34 _ HAJ.out _ Tryd.underlying34 infoSt ?_)
          | (refine wpList_loadB rfl 50 (.tmp 10) rfl bn rfl 50 _ HNJ.out _ Tryd.underlying50 infoDp ?_))
      refine (law17_rank st A2 n c2 fs se re ag hv { q with n0 := 3 } now ppm _ HXJ.out (by have := Hm.out; omega) Hbs.out (hg.ext (HE.out.trans HEJ.out)) (by have := Hs.out; have := Hm.out; omega) (hgl.ext (HE.out.trans HEJ.out))).mono ?_; rintro e wK ⟨rfl, hbK⟩
      rw [← Hq2.out]
      have HAK := Lib.hid (HAJ.out.ext hbK); have HBK := Lib.hid (HBJ.out.ext hbK); have HMK := Lib.hid (HMJ.out.ext hbK); have HQK := Lib.hid (HQJ.out.ext hbK); have HXK := Lib.hid (HXJ.out.ext hbK); have HEK := Lib.hid (HEJ.out.trans hbK)
      have HNK := Lib.hid (HNJ.out.ext hbK)
      have j2a := Hj2.out
      generalize jdS ⟨st, fs, ⟨se, re, ag⟩, hv⟩ { q with n0 := if q.n0 < 0 then 3 else V } now ppm = j2 at *
      have j2c : ¬ j2 < j0 := by omega
      have gK : wK.cell? ⟨gb, 11, none⟩ = some (.int .i64 q.n5) := HBK.out.cell 11
      clear m0 m1
      go_wp2_with (first
          | (refine wpList_loadB rfl 50 (.tmp 8) rfl gb rfl 50 _ HBK.out _ Tryd.underlying50 infoDp ?_)
          | (refine wpList_storeB rfl 50 (.tmp 10) (.tmp 59) rfl rfl bn _ rfl rfl 50 _ HNK.out infoDp rfl (dArr_one q) ?_; intro wL hNL hXL; have g11 : wL.cell? ⟨gb, 11, none⟩ = some (.int .i64 q.n5) := (HBK.out.grown hXL (by simp; omega)).cell 11; have hfL := hNL.frozen; have n11 : wL.cell? ⟨bn, 11, none⟩ = some (.int .i64 q.n5) := hNL.cell 11; have HAL := Lib.hid (HAK.out.grown hXL (by simp; omega)); have HBL := Lib.hid (HBK.out.grown hXL (by simp; omega)); have HML := Lib.hid (HMK.out.grown hXL (by simp; omega)); have HQL := Lib.hid (HQK.out.grown hXL (by simp; omega)); have HXL := Lib.hid (Rd.growZ HXK.out hXL Hsn.out); have HEL := Lib.hid (HEK.out.growB hXL (by omega)); have HNL := Lib.hid hNL; have HNP := Lib.hid (show Blk (wL.setCell ⟨bn, 11, none⟩ (.int .i64 (max 0 q.n5))) bn 50 (dArr { q with n5 := max 0 q.n5 }) from hNL.set_ 11 (.int .i64 (max 0 q.n5))); have hxP := (ExtB.refl bn wL).set_ 11 (.int .i64 (max 0 q.n5)); have HAP := Lib.hid (HAL.out.grown hxP (by simp; omega)); have HBP := Lib.hid (HBL.out.grown hxP (by simp; omega)); have HMP := Lib.hid (HML.out.grown hxP (by simp; omega)); have HQP := Lib.hid (HQL.out.grown hxP (by simp; omega)); have HXP := Lib.hid (Rd.growZ HXL.out hxP Hsn.out); have HEP := Lib.hid (HEL.out.growB hxP (by omega)); have m0 := HMP.out.cell 0; have m1 := HMP.out.cell 1)
          | (refine wpList_loadB rfl 34 (.tmp 7) rfl ga rfl 34 _ HAP.out _ Tryd.underlying34 infoSt ?_)
          | (refine wpList_loadB rfl 50 (.tmp 10) rfl bn rfl 50 _ HNP.out _ Tryd.underlying50 infoDp ?_))
      refine (law17_rank st A2 n c2 fs se re ag hv { q with n5 := max 0 q.n5 } now ppm _ HXP.out (by have := Hm.out; omega) Hbs.out (hg.ext (HE.out.trans HEP.out)) (by have := Hs.out; have := Hm.out; omega) (hgl.ext (HE.out.trans HEP.out))).mono ?_; rintro e wR ⟨rfl, hbR⟩
      have j3a := Hj3.out
      generalize jdS ⟨st, fs, ⟨se, re, ag⟩, hv⟩ { q with n5 := max 0 q.n5 } now ppm = j3 at *
      have j3c : j0 ≤ j3 := by omega
      go_wp2_with fail
      go_ret
      exact ⟨rfl, HE.out.trans (HEP.out.trans hbR)⟩
    · have Hq2 := Lib.hid (show jdS ⟨st, fs, ⟨se, re, ag⟩, hv⟩ { q with n0 := if q.n0 < 0 then 3 else V } now ppm = jdS ⟨st, fs, ⟨se, re, ag⟩, hv⟩ { q with n0 := V } now ppm by rw [if_neg hq0])
      have m0 := HMI.out.cell 0
      have m1 := HMI.out.cell 1
      go_wp2_with (first
          | (refine wpList_loadB rfl 34 (.tmp 7) rfl ga rfl 34 _ HAI.out _ Tryd.underlying34 infoSt ?_)
          | (refine wpList_loadB rfl 50 (.tmp 10) rfl bn rfl 50 _ HNI.out _ Tryd.underlying50 infoDp ?_))
      refine (law17_rank st A2 n c2 fs se re ag hv { q with n0 := V } now ppm _ HXI.out (by have := Hm.out; omega) Hbs.out (hg.ext (HE.out.trans HEI.out)) (by have := Hs.out; have := Hm.out; omega) (hgl.ext (HE.out.trans HEI.out))).mono ?_; rintro e wK ⟨rfl, hbK⟩
      rw [← Hq2.out]
      have HAK := Lib.hid (HAI.out.ext hbK); have HBK := Lib.hid (HBI.out.ext hbK); have HMK := Lib.hid (HMI.out.ext hbK); have HQK := Lib.hid (HQI.out.ext hbK); have HXK := Lib.hid (HXI.out.ext hbK); have HEK := Lib.hid (HEI.out.trans hbK)
      have HNK := Lib.hid (HNI.out.ext hbK)
      have j2a := Hj2.out
      generalize jdS ⟨st, fs, ⟨se, re, ag⟩, hv⟩ { q with n0 := if q.n0 < 0 then 3 else V } now ppm = j2 at *
      have j2c : ¬ j2 < j0 := by omega
      have gK : wK.cell? ⟨gb, 11, none⟩ = some (.int .i64 q.n5) := HBK.out.cell 11
      clear m0 m1
      go_wp2_with (first
          | (refine wpList_loadB rfl 50 (.tmp 8) rfl gb rfl 50 _ HBK.out _ Tryd.underlying50 infoDp ?_)
          | (refine wpList_storeB rfl 50 (.tmp 10) (.tmp 59) rfl rfl bn _ rfl rfl 50 _ HNK.out infoDp rfl (dArr_one q) ?_; intro wL hNL hXL; have g11 : wL.cell? ⟨gb, 11, none⟩ = some (.int .i64 q.n5) := (HBK.out.grown hXL (by simp; omega)).cell 11; have hfL := hNL.frozen; have n11 : wL.cell? ⟨bn, 11, none⟩ = some (.int .i64 q.n5) := hNL.cell 11; have HAL := Lib.hid (HAK.out.grown hXL (by simp; omega)); have HBL := Lib.hid (HBK.out.grown hXL (by simp; omega)); have HML := Lib.hid (HMK.out.grown hXL (by simp; omega)); have HQL := Lib.hid (HQK.out.grown hXL (by simp; omega)); have HXL := Lib.hid (Rd.growZ HXK.out hXL Hsn.out); have HEL := Lib.hid (HEK.out.growB hXL (by omega)); have HNL := Lib.hid hNL; have HNP := Lib.hid (show Blk (wL.setCell ⟨bn, 11, none⟩ (.int .i64 (max 0 q.n5))) bn 50 (dArr { q with n5 := max 0 q.n5 }) from hNL.set_ 11 (.int .i64 (max 0 q.n5))); have hxP := (ExtB.refl bn wL).set_ 11 (.int .i64 (max 0 q.n5)); have HAP := Lib.hid (HAL.out.grown hxP (by simp; omega)); have HBP := Lib.hid (HBL.out.grown hxP (by simp; omega)); have HMP := Lib.hid (HML.out.grown hxP (by simp; omega)); have HQP := Lib.hid (HQL.out.grown hxP (by simp; omega)); have HXP := Lib.hid (Rd.growZ HXL.out hxP Hsn.out); have HEP := Lib.hid (HEL.out.growB hxP (by omega)); have m0 := HMP.out.cell 0; have m1 := HMP.out.cell 1)
          | (refine wpList_loadB rfl 34 (.tmp 7) rfl ga rfl 34 _ HAP.out _ Tryd.underlying34 infoSt ?_)
          | (refine wpList_loadB rfl 50 (.tmp 10) rfl bn rfl 50 _ HNP.out _ Tryd.underlying50 infoDp ?_))
      refine (law17_rank st A2 n c2 fs se re ag hv { q with n5 := max 0 q.n5 } now ppm _ HXP.out (by have := Hm.out; omega) Hbs.out (hg.ext (HE.out.trans HEP.out)) (by have := Hs.out; have := Hm.out; omega) (hgl.ext (HE.out.trans HEP.out))).mono ?_; rintro e wR ⟨rfl, hbR⟩
      have j3a := Hj3.out
      generalize jdS ⟨st, fs, ⟨se, re, ag⟩, hv⟩ { q with n5 := max 0 q.n5 } now ppm = j3 at *
      have j3c : j0 ≤ j3 := by omega
      go_wp2_with fail
      go_ret
      exact ⟨rfl, HE.out.trans (HEP.out.trans hbR)⟩
  · rintro m listed a w1 ⟨k, ba, bb, ga, gb, va, vb, vx, vy, A2, c2, hn, hc, rfl, rfl, hE1, kx, ky, ka, kb, dab, sxa, sxb⟩
    refine inv_step ((if k = 0 then [1] else if k = 1 then [3] else []) ++ (bif ba then [] else [4]) ++ (bif bb then [] else [5])) ?_ ?_ ?_
    · clear kx ky ka kb dab hE1 sxa sxb
      obtain rfl | rfl | rfl : k = 0 ∨ k = 1 ∨ k = 2 := by omega
      all_goals (cases ba <;> cases bb)
      all_goals first | (exfalso; simp at hn; done) | kernel_rfl
    · clear kx ky ka kb dab hE1 sxa sxb
      obtain rfl | rfl | rfl : k = 0 ∨ k = 1 ∨ k = 2 := by omega
      all_goals (cases ba <;> cases bb)
      all_goals first | (exfalso; simp at hn; done) | (intro h; cases h; done)
    · intro i hi
      have hi : (i = 1 ∧ k = 0) ∨ (i = 3 ∧ k = 1) ∨ (i = 4 ∧ ba = false) ∨ (i = 5 ∧ bb = false) := by
        simp only [List.mem_append] at hi
        rcases hi with (hi | hi) | hi
        · split at hi
          · simp at hi; exact .inl ⟨hi, by assumption⟩
          · split at hi
            · simp at hi; exact .inr (.inl ⟨hi, by assumption⟩)
            · simp at hi
        · cases ba <;> simp at hi; exact .inr (.inr (.inl ⟨hi, rfl⟩))
        · cases bb <;> simp at hi; exact .inr (.inr (.inr ⟨hi, rfl⟩))
      rcases hi with ⟨rfl, rfl⟩ | ⟨rfl, rfl⟩ | ⟨rfl, rfl⟩ | ⟨rfl, rfl⟩
      · refine inv_op rfl (fun K hK => ?_)
        go_simp
        refine (HSt.out _ hE1).mono ?_; rintro e w3 ⟨A9, c9, rfl, hr9, hc9, hb3, hf9⟩
        try go_wp2_with fail
        have hE2 := hE1.trans hb3
        refine hK.out _ _ ⟨⟨HBs.out.ext hE2, HBq.out.ext hE2⟩, 1, ba, bb, ga, gb, va, vb, .agg #[.int .i64 st, .slice A9 n c9, .int .i64 se, .int .i64 re, .int .i64 ag, .bool hv], vy, A9, c9, (by cases ba <;> cases bb <;> simp only [cond_true, cond_false] at hn ⊢ <;> omega), by decide, rfl, rfl, hE2, (fun _ => ⟨rfl, hr9⟩), (fun h => by omega), (fun h => ⟨(ka h).1, (ka h).2.1.ext hb3, (ka h).2.2⟩), (fun h => ⟨(kb h).1, (kb h).2.1.ext hb3, (kb h).2.2⟩), dab, (fun _ h _ a ha => by have := hf9 a ha; have := (ka h).2.1.lt; omega), (fun _ h _ a ha => by have := hf9 a ha; have := (kb h).2.1.lt; omega)⟩
      · refine inv_op rfl (fun K hK => ?_)
        go_simp
        refine (law_Program q _).mono ?_; rintro e w3 ⟨rfl, hb3⟩
        try go_wp2_with fail
        have hE2 := hE1.trans hb3
        refine hK.out _ _ ⟨⟨HBs.out.ext hE2, HBq.out.ext hE2⟩, 2, ba, bb, ga, gb, va, vb, .agg #[.int .i64 st, .slice A2 n c2, .int .i64 se, .int .i64 re, .int .i64 ag, .bool hv], .agg (dArr q), A2, c2, (by cases ba <;> cases bb <;> simp only [cond_true, cond_false] at hn ⊢ <;> omega), by decide, rfl, rfl, hE2, (fun _ => ⟨rfl, (kx (by decide)).2.ext hb3⟩), (fun _ => ⟨rfl, trivial⟩), (fun h => ⟨(ka h).1, (ka h).2.1.ext hb3, (ka h).2.2⟩), (fun h => ⟨(kb h).1, (kb h).2.1.ext hb3, (kb h).2.2⟩), dab, (fun _ => sxa (by omega)), (fun _ => sxb (by omega))⟩
      · refine inv_op rfl (fun K hK => ?_)
        go_simp
        try go_wp2_with fail
        have hE2 := hE1.alloc (.cells #[.int .i64 0, .slice none 0 0, .int .i64 0, .int .i64 0, .int .i64 0, .bool false] 34)
        refine hK.out _ _ ⟨⟨HBs.out.ext hE2, HBq.out.ext hE2⟩, k, true, bb, w1.heap.size, gb, .pointer (some ⟨w1.heap.size, 0, none⟩), vb, vx, vy, A2, c2, (by cases bb <;> simp only [cond_true, cond_false] at hn ⊢ <;> omega), hc, rfl, rfl, hE2, (fun h => ⟨(kx h).1, (kx h).2.alloc _⟩), (fun h => ⟨(ky h).1, trivial⟩), (fun _ => ⟨rfl, Blk.new w1 34 #[.int .i64 0, .slice none 0 0, .int .i64 0, .int .i64 0, .int .i64 0, .bool false], hE1.below.size⟩), (fun h => ⟨(kb h).1, (kb h).2.1.alloc _, (kb h).2.2⟩), (fun _ h => by have := (kb h).2.1.lt; omega), (fun h _ h0 a ha => by have := Rd.lowF (kx h).2 h0 a ha; omega), sxb⟩
      · refine inv_op rfl (fun K hK => ?_)
        go_simp
        try go_wp2_with fail
        have hE2 := hE1.alloc (.cells (dArr zeroD) 50)
        refine hK.out _ _ ⟨⟨HBs.out.ext hE2, HBq.out.ext hE2⟩, k, ba, true, ga, w1.heap.size, va, .pointer (some ⟨w1.heap.size, 0, none⟩), vx, vy, A2, c2, (by cases ba <;> simp only [cond_true, cond_false] at hn ⊢ <;> omega), hc, rfl, rfl, hE2, (fun h => ⟨(kx h).1, (kx h).2.alloc _⟩), (fun h => ⟨(ky h).1, trivial⟩), (fun h => ⟨(ka h).1, (ka h).2.1.alloc _, (ka h).2.2⟩), (fun _ => ⟨rfl, Blk.new w1 50 (dArr zeroD), hE1.below.size⟩), (fun h _ => by have := (ka h).2.1.lt; omega), sxa, (fun h _ h0 a ha => by have := Rd.lowF (kx h).2 h0 a ha; omega)⟩
end Go.Proofs.YtocniclkooiggaaDoor

namespace Go.Proofs.YtocniclkooiggaaDoor
open Go.ChangeShapes Go.WideShapes Go.Deep Go.RowKit

/-- Type e is a struct of two strings. -/
def TwoStr (P : Program) (e S : TypeId) : Prop := ∃ f0 f1, P.underlying e = some (.struct #[f0, f1]) ∧ f0.type = S ∧ f1.type = S ∧ f0.offset = 0 ∧ f1.offset = 1 ∧ P.underlying S = some .string ∧ P.cellsOf S = 1 ∧ P.cellsOf e = 2

section
variable {H : Type} {enc : TypeId × Value → H} {P : Program} {w : World} {base : Nat} {spare : Nat → Bool} {held : Bool}

theorem trod_twoStr {e S : TypeId} {fuel : Nat} {cs : List Value} {x : DataW H × List MemPlace} (he : TwoStr P e S) (h : DataW.trod enc P w base spare held fuel e cs = some x) :
    ∃ a b : ByteArray, cs = [.string a, .string b] ∧ x.1 = .agg [.lit (.string a.data.toList), .lit (.string b.data.toList)] ∧ a.size ≤ maxLen ∧ b.size ≤ maxLen := by
  obtain ⟨f0, f1, hu, t0, t1, o0, o1, hS, hc, hce⟩ := he
  obtain ⟨y0, y1, n, rfl, hl, h0, h1⟩ := trod_struct2 hu h
  rw [t0, o0, hc] at h0
  rw [t1, o1, hc] at h1
  rw [hce] at hl
  match cs, hl with
  | [c0, c1], _ =>
    simp only [List.drop_zero, List.take_succ_cons, List.take_zero] at h0
    simp only [List.drop_succ_cons, List.drop_zero, List.take_succ_cons, List.take_zero] at h1
    obtain ⟨a, ha, rfl, ha2⟩ := DataW.trod_string hS h0
    obtain ⟨b, hb, rfl, hb2⟩ := DataW.trod_string hS h1
    simp only [List.cons.injEq, and_true] at ha hb
    subst ha; subst hb
    exact ⟨a, b, rfl, rfl, ha2, hb2⟩

theorem sz_data (a : ByteArray) : a.data.toList.length = a.size := by rw [Array.length_toList]; rfl

theorem weightsAll_mem {e : TypeId} {n : Nat} : ∀ {l : List (DataW H)} {i : Nat} {d : DataW H}, l[i]? = some d → n ∈ d.weights P e → n ∈ DataW.weightsAll P e l
  | d0 :: l, 0, d, hd, hn => by
    simp only [List.getElem?_cons_zero, Option.some.injEq] at hd
    subst hd
    simp only [DataW.weightsAll, List.mem_append]
    exact Or.inl hn
  | d0 :: l, i + 1, d, hd, hn => by
    simp only [List.getElem?_cons_succ] at hd
    simp only [DataW.weightsAll, List.mem_append]
    exact Or.inr (weightsAll_mem hd hn)
  | [], _, _, hd, _ => by simp at hd

/-- A slice of pairs of strings, opened. -/
theorem open_flds {t e S : TypeId} {A : Option Addr} {n c : Nat} {d : DataW H} {p : List MemPlace} (ht : P.underlying t = some (.slice e)) (he : TwoStr P e S)
    (h : DataW.Trod enc P w base spare held t (.slice A n c) d p) :
    ∃ L : List Fd, RdF w A n L ∧ n ≤ maxLen ∧ n ≤ c ∧ (∀ B, (∀ x ∈ d.weights P t, x ≤ B) → Bsz B L ∧ n * P.bytesOf e ≤ B) := by
  obtain ⟨fuel, hf⟩ := h
  have hf' : DataW.trod enc P w base spare held fuel t [.slice A n c] = some (d, p) := by simpa [Value.cells] using hf
  rcases open_slice ht hf' with ⟨hcs, hx⟩ | ⟨a, len, cap, m, k, D, Pl, hcs, hb, hl, hm, hmm, hx, hi⟩
  · simp only [List.cons.injEq, Value.slice.injEq, and_true] at hcs
    obtain ⟨rfl, rfl, rfl⟩ := hcs
    exact ⟨[], Rd.none_ _ _ _, by simp [maxLen], Nat.le_refl _, fun B _ => ⟨by intro f hf; simp at hf, by simp⟩⟩
  · simp only [List.cons.injEq, Value.slice.injEq, and_true] at hcs
    obtain ⟨rfl, rfl, rfl⟩ := hcs
    obtain ⟨f0, f1, hu, t0, t1, o0, o1, hS, hc, hce⟩ := id he
    rw [hce] at hi
    have hnm : n ≤ m := by rw [hmm]; split <;> omega
    obtain ⟨F, hF⟩ := choose_lt (α := Fd) (n := m) (p := fun i f => w.cell? (a.add (i * 2)) = some (.string f.1) ∧ w.cell? (a.add (i * 2 + 1)) = some (.string f.2) ∧ D i = .agg [.lit (.string f.1.data.toList), .lit (.string f.2.data.toList)]) (fun i him => by
      obtain ⟨cs', h1, h2⟩ := hi i him
      obtain ⟨_, _, hat⟩ := World.cells?_some h1
      obtain ⟨u, v, rfl, hd, _, _⟩ := trod_twoStr he h2
      have c0 := hat 0 (by omega)
      have c1 := hat 1 (by omega)
      rw [Go.Deep.add_add] at c0 c1
      exact ⟨(u, v), by simpa using c0, by simpa using c1, hd⟩)
    have hlen : ((List.range n).map F).length = n := by simp
    refine ⟨(List.range n).map F, ⟨by rw [fldCells_len, hlen], fun hpos => ?_⟩, by omega, hl, fun B hB => ⟨fun f hf => ?_, ?_⟩⟩
    · have hn0 : 0 < n := by rw [fldCells_len, hlen] at hpos; omega
      obtain ⟨b, o, sp⟩ := a
      have hsp : sp = none := by simpa [Addr.add] using World.cell?_spot (hF 0 (by omega)).1
      subst hsp
      refine ⟨b, o, rfl, fun j u hj => ?_⟩
      have hjl : j < n * 2 := by
        have := (List.getElem?_eq_some_iff.1 hj).1
        rw [fldCells_len, hlen] at this; exact this
      have hlt : j / 2 < ((List.range n).map F).length := by rw [hlen]; omega
      have hcells := hF (j / 2) (by omega)
      rw [add_plain, add_plain] at hcells
      have hFe : ((List.range n).map F)[j / 2] = F (j / 2) := by simp
      rcases Nat.mod_two_eq_zero_or_one j with h0 | h1
      · have e : j = j / 2 * 2 := by omega
        rw [e, fldCells_at0 _ _ hlt, hFe] at hj
        rw [e, ← hj]
        have e2 : j / 2 * 2 / 2 = j / 2 := by omega
        exact hcells.1
      · have e : j = j / 2 * 2 + 1 := by omega
        rw [e, fldCells_at1 _ _ hlt, hFe] at hj
        rw [e, ← hj]
        exact hcells.2.1
    · simp only [List.mem_map, List.mem_range] at hf
      obtain ⟨i, hin, rfl⟩ := hf
      have hd := (hF i (by omega)).2.2
      have hx1 : d = DataW.slice ((List.range n).map D) ((List.range (m - n)).map fun j => D (n + j)) := congrArg Prod.fst hx
      have hw : ∀ x ∈ (D i).weights P e, x ≤ B := fun x hxm => hB x (by
        rw [hx1]
        simp only [DataW.weights, ht, List.mem_cons, List.mem_append]
        exact Or.inr (Or.inl (weightsAll_mem (i := i) (by simp [hin]) hxm)))
      rw [hd] at hw
      simp only [DataW.weights, hu, DataW.weightsEach, List.map_cons, List.map_nil] at hw
      simp only [List.append_nil, List.mem_append, List.mem_singleton] at hw
      exact ⟨by rw [← sz_data]; exact hw _ (Or.inl rfl), by rw [← sz_data]; exact hw _ (Or.inr rfl)⟩
    · have hx1 : d = DataW.slice ((List.range n).map D) ((List.range (m - n)).map fun j => D (n + j)) := congrArg Prod.fst hx
      have := hB ((((List.range n).map D).length + ((List.range (m - n)).map fun j => D (n + j)).length) * P.bytesOf e) (by
        rw [hx1]
        simp [DataW.weights, ht])
      simp only [List.length_map, List.length_range] at this
      exact Nat.le_trans (Nat.mul_le_mul_right _ (by omega)) this
end

/-- An array of two strings by value, opened. -/
theorem open_arr2 {H : Type} {enc : TypeId × Value → H} {P : Program} {w : World} {base : Nat} {spare : Nat → Bool} {held : Bool} {t S : TypeId} {v : Value} {d : DataW H} {p : List MemPlace} {r : Reach} {b0 : Nat}
    (ht : P.underlying t = some (.array 2 S)) (hS : P.underlying S = some .string) (hc : P.cellsOf S = 1) (hct : P.cellsOf t = 2) (hv : Value.okWide P w r b0 t v) (h : DataW.Trod enc P w base spare held t v d p) :
    ∃ a b : ByteArray, v = .agg #[.string a, .string b] ∧ (∀ B, (∀ x ∈ d.weights P t, x ≤ B) → a.size ≤ B ∧ b.size ≤ B) := by
  simp only [Value.okWide, ht] at hv
  obtain ⟨cs, rfl, hsz, _⟩ := hv
  rw [hct] at hsz
  obtain ⟨fuel, hf⟩ := h
  obtain ⟨xs, m, _, hx, _, hlen, hg⟩ := DataW.trod_array ht hf
  obtain ⟨l⟩ := cs
  match l, hsz with
  | [c0, c1], _ =>
    match xs, hlen with
    | [y0, y1], _ =>
      have g0 := hg 0 (by omega)
      have g1 := hg 1 (by omega)
      simp only [Value.cells, hc, Nat.zero_mul, List.drop_zero, List.take_succ_cons, List.take_zero, List.getElem?_cons_zero] at g0
      simp only [Value.cells, hc, Nat.one_mul, List.drop_succ_cons, List.drop_zero, List.take_succ_cons, List.take_zero, List.getElem?_cons_succ, List.getElem?_cons_zero] at g1
      obtain ⟨a, ha, ha1, _⟩ := DataW.trod_string hS g0
      obtain ⟨b, hb, hb1, _⟩ := DataW.trod_string hS g1
      simp only [List.cons.injEq, and_true] at ha hb
      subst ha; subst hb; subst ha1; subst hb1
      refine ⟨a, b, rfl, fun B hB => ?_⟩
      have hd := congrArg Prod.fst hx
      simp only [List.map_cons, List.map_nil] at hd
      rw [hd] at hB
      simp only [DataW.weights, ht, DataW.weightsAll, List.append_nil, List.mem_append, List.mem_singleton] at hB
      exact ⟨by rw [← sz_data]; exact hB _ (Or.inl rfl), by rw [← sz_data]; exact hB _ (Or.inr rfl)⟩

/-- What one argument weighs, out of what all do. -/
theorem weights_one {H : Type} {P : Program} {ts : List TypeId} {ds : List (DataW H)} (h : (DataW.weightsEach P ts ds).all (· ≤ reachBytes) = true) {j : Nat} {t : TypeId} {d : DataW H}
    (ht : ts[j]? = some t) (hd : ds[j]? = some d) : ∀ x ∈ d.weights P t, x ≤ 140737488351232 := fun x hx => by
  have := List.all_eq_true.1 h _ (DataW.weights_mem_each ht hd x hx)
  exact of_decide_eq_true this
end Go.Proofs.YtocniclkooiggaaDoor

namespace Go.Proofs.YtocniclkooiggaaDoor
open Go.ChangeShapes Go.WideShapes Go.Deep Go.RowKit

theorem bulk_app {H : Type} (l r : List (DataW H)) : Rows.uptoBulkAll (l ++ r) = Rows.uptoBulkAll l + Rows.uptoBulkAll r := by
  induction l with
  | nil => simp [Rows.uptoBulkAll]
  | cons x l ih => simp only [List.cons_append, Rows.uptoBulkAll, ih]; omega
theorem bulk_strs {H : Type} (l : List ByteArray) : Rows.uptoBulkAll (H := H) (l.map fun s => DataW.lit (.string s.data.toList)) = l.length + totS l := by
  induction l with
  | nil => rfl
  | cons x l ih =>
    simp only [List.map_cons, Rows.uptoBulkAll, ih, Rows.uptoBulk, List.length_cons, totS, List.sum_cons, Array.length_toList]
    show x.size + 1 + _ = _
    omega
theorem bulk_flds {H : Type} (l : List Fd) : Rows.uptoBulkAll (H := H) (l.map fun f => DataW.agg [.lit (.string f.1.data.toList), .lit (.string f.2.data.toList)]) = 3 * l.length + sumF l := by
  induction l with
  | nil => rfl
  | cons x l ih =>
    simp only [List.map_cons, Rows.uptoBulkAll, ih, Rows.uptoBulk, List.length_cons, sumF, List.sum_cons, Array.length_toList]
    show (x.1.size + 1) + ((x.2.size + 1) + 0) + 1 + _ = _
    omega
/-- The bound of an Upto statement. -/
theorem bulk_of {H : Type} {l : List (DataW H)} (hk : Rows.uptoSmall H l = true) : Rows.uptoBulkAll l ≤ 1048576 := of_decide_eq_true hk

section
variable {H : Type} {enc : TypeId × Value → H} {P : Program} {w : World} {base : Nat} {spare : Nat → Bool} {held : Bool}
/-- A slice of strings, opened. -/
theorem open_strsL {t e : TypeId} {A : Option Addr} {n c : Nat} {d : DataW H} {p : List MemPlace} (ht : P.underlying t = some (.slice e)) (he : P.underlying e = some .string) (hce : P.cellsOf e = 1)
    (h : DataW.Trod enc P w base spare held t (.slice A n c) d p) :
    ∃ L : List ByteArray, RdS w A n L ∧ n ≤ maxLen ∧ n ≤ c ∧ L.length + totS L + 1 ≤ Rows.uptoBulk d := by
  obtain ⟨fuel, hf⟩ := h
  have hf' : DataW.trod enc P w base spare held fuel t [.slice A n c] = some (d, p) := by simpa [Value.cells] using hf
  rcases open_strings ht he hce hf' with ⟨hcs, hx⟩ | ⟨a, len, cap, ss, hcs, hb, hl, hm, hlen, hx, hi⟩
  · simp only [List.cons.injEq, Value.slice.injEq, and_true] at hcs
    obtain ⟨rfl, rfl, rfl⟩ := hcs
    obtain rfl : d = .nil := congrArg Prod.fst hx
    exact ⟨[], Rd.none_ _ _ _, by simp [maxLen], Nat.le_refl _, by simp [totS, Rows.uptoBulk]⟩
  · simp only [List.cons.injEq, Value.slice.injEq, and_true] at hcs
    obtain ⟨rfl, rfl, rfl⟩ := hcs
    have hnl : n ≤ ss.length := by rw [hlen]; split <;> omega
    have htl : (ss.take n).length = n := by rw [List.length_take]; omega
    refine ⟨ss.take n, ⟨by simp; omega, fun hpos => ?_⟩, by omega, hl, ?_⟩
    · obtain ⟨b, o, sp⟩ := a
      have h0 : 0 < ss.length := by
        rw [List.length_map, htl] at hpos; omega
      have hc0 := hi.1 0 h0
      have hsp : sp = none := by simpa [Addr.add] using World.cell?_spot hc0
      subst hsp
      refine ⟨b, o, rfl, fun j u hu => ?_⟩
      rw [List.getElem?_map, List.getElem?_take] at hu
      split at hu
      · rename_i hjn
        obtain ⟨s, hs, rfl⟩ := Option.map_eq_some_iff.1 hu
        obtain ⟨hjl, he⟩ := List.getElem?_eq_some_iff.1 hs
        have := hi.1 j hjl
        rw [add_plain, List.getD_eq_getElem?_getD, hs] at this
        exact this
      · simp at hu
    · obtain rfl : d = _ := congrArg Prod.fst hx
      simp only [Rows.uptoBulk]
      have := bulk_strs (H := H) (ss.take n)
      unfold strs
      omega
end

/-- THERE IS AN INPUT THAT FITS: a row that lists variables. -/
theorem witU {H : Type} {enc : TypeId × Value → H} {C : Checked} {os : Os} {f : FuncId} {fn : Func} {s : OpenSpec} {conds : List PathCond} {apart : Bool} {laid : List (String × DataW Unit)} (args : Array Value)
    (hv : ((World.laidAll C.prog os laid).forCall (fun _ _ => 0) ⟨#[], args, []⟩).variablesZipB C.prog = true)
    (hr : (((World.laidAll C.prog os laid).forCall (fun _ _ => 0) ⟨#[], args, []⟩).heap.toList.drop C.prog.globals.size).take ((begin C.prog (fun _ _ => 0) default).world.heap.size - C.prog.globals.size) =
      (begin C.prog (fun _ _ => 0) default).world.heap.toList.drop C.prog.globals.size)
    (hok : Input.okWideB C.prog ((World.laidAll C.prog os laid).forCall (fun _ _ => 0) ⟨#[], args, []⟩) f ⟨#[], args, []⟩ = true)
    (hrow : s.preRow enc C.prog fn conds apart laid ((World.laidAll C.prog os laid).forCall (fun _ _ => 0) ⟨#[], args, []⟩).memory args) :
    ∃ (w : World) (tape : Tape) (i : Input), w.os = os ∧ (w.forCall tape i).Shaped C.prog ∧ i.vars = [] ∧ Input.okWide C.prog (w.forCall tape i) .any w.heap.size f i ∧
      s.preRow enc C.prog fn conds apart laid (w.forCall tape i).memory i.args ∧ ({} : Assume).holds C.prog (lone (Frame.enter C.prog f i.args .normal) [] (w.forCall tape i)) :=
  ⟨World.laidAll C.prog os laid, fun _ _ => 0, ⟨#[], args, []⟩, World.laidAll_os _ _ _, World.shaped_of_ZipB hv hr, (Input.okWide_of_okWideB (base := 0) hok).1, (Input.okWide_of_okWideB hok).2, hrow, by
    simp only [Assume.holds]
    exact ⟨by simp, by simp, fun _ => Modest.zero, by simp, by simp⟩⟩
end Go.Proofs.YtocniclkooiggaaDoor

namespace Go.Proofs.YtocniclkooiggaaDoor
open Go.ChangeShapes Go.WideShapes Go.RowKit Go.Deep Go.Joins
section
variable {H : Type} {enc : TypeId × Value → H} {w : World} {base : Nat} {spare : Nat → Bool} {held : Bool}
theorem c_slice {P : Program} {t e : TypeId} {fuel : Nat} {cs : List Value} {x : DataW H × List MemPlace} (ht : P.underlying t = some (.slice e)) (h : DataW.trod enc P w base spare held fuel t cs = some x) :
    ∃ A n c, cs = [.slice A n c] ∧ DataW.Trod enc P w base spare held t (.slice A n c) x.1 x.2 := by
  rcases open_slice ht h with ⟨rfl, hx⟩ | ⟨a, len, cap, m, k, D, Pl, rfl, hb, hl, hm, hmm, hx, hi⟩
  · exact ⟨_, _, _, rfl, fuel, by simpa [Value.cells] using h⟩
  · exact ⟨_, _, _, rfl, fuel, by simpa [Value.cells] using h⟩
theorem open_agg {P : Program} {r : Reach} {b0 : Nat} {t : TypeId} {fs : Array Field} {v : Value} {d : DataW H} {p : List MemPlace} (hs : P.underlying t = some (.struct fs)) (hv : Value.okWide P w r b0 t v) (h : DataW.Trod enc P w base spare held t v d p) :
    ∃ (cs : Array Value) (fuel : Nat), v = .agg cs ∧ DataW.trod enc P w base spare held fuel t cs.toList = some (d, p) := by
  obtain ⟨cs, rfl, hsz⟩ := okWide_struct hs hv
  obtain ⟨fuel, hf⟩ := h
  exact ⟨cs, fuel, rfl, by simpa [Value.cells] using hf⟩
set_option maxRecDepth 100000 in
theorem c_Dr {fuel : Nat} {cs : List Value} {x : DataW H × List MemPlace} (h : DataW.trod enc Tryd.prog w base spare held fuel 61 cs = some x) :
    ∃ (x_0 : Bool) (x_1 : Bool) (x_2 : Bool) (x_3 : Bool) (x_4 : Bool) (x_5 : Bool) (x_6 : Int) (x_7 : Int) (x_8 : Int) (x_9 : Int) (x_10 : Int) (x_11 : Int), cs = [.bool x_0, .bool x_1, .bool x_2, .bool x_3, .bool x_4, .bool x_5, .int .i64 x_6, .int .i64 x_7, .int .i64 x_8, .int .i64 x_9, .int .i64 x_10, .int .i64 x_11] ∧ x.1 = .agg [.lit (.bool x_0), .lit (.bool x_1), .lit (.bool x_2), .lit (.bool x_3), .lit (.bool x_4), .lit (.bool x_5), .lit (.int .i64 x_6), .lit (.int .i64 x_7), .lit (.int .i64 x_8), .lit (.int .i64 x_9), .lit (.int .i64 x_10), .lit (.int .i64 x_11)] ∧ ((Lit.int .i64 x_6).wf = true ∧ (Lit.int .i64 x_7).wf = true ∧ (Lit.int .i64 x_8).wf = true ∧ (Lit.int .i64 x_9).wf = true ∧ (Lit.int .i64 x_10).wf = true ∧ (Lit.int .i64 x_11).wf = true) := by
  obtain ⟨xs, n, _, rfl, hl, hlen, hf⟩ := DataW.trod_struct Tryd.underlying61 h
  rw [show Tryd.prog.cellsOf 61 = 12 from by kernel_rfl] at hl
  match cs, hl with
  | [c0, c1, c2, c3, c4, c5, c6, c7, c8, c9, c10, c11], _ =>
  have hlen : xs.length = 12 := hlen
  match xs, hlen with
  | [y0, y1, y2, y3, y4, y5, y6, y7, y8, y9, y10, y11], _ =>
    have g0 : DataW.trod enc Tryd.prog w base spare held n 4 (([c0, c1, c2, c3, c4, c5, c6, c7, c8, c9, c10, c11].drop 0).take (Tryd.prog.cellsOf 4)) = [y0, y1, y2, y3, y4, y5, y6, y7, y8, y9, y10, y11][0]? := hf 0 _ rfl
    have g1 : DataW.trod enc Tryd.prog w base spare held n 4 (([c0, c1, c2, c3, c4, c5, c6, c7, c8, c9, c10, c11].drop 1).take (Tryd.prog.cellsOf 4)) = [y0, y1, y2, y3, y4, y5, y6, y7, y8, y9, y10, y11][1]? := hf 1 _ rfl
    have g2 : DataW.trod enc Tryd.prog w base spare held n 4 (([c0, c1, c2, c3, c4, c5, c6, c7, c8, c9, c10, c11].drop 2).take (Tryd.prog.cellsOf 4)) = [y0, y1, y2, y3, y4, y5, y6, y7, y8, y9, y10, y11][2]? := hf 2 _ rfl
    have g3 : DataW.trod enc Tryd.prog w base spare held n 4 (([c0, c1, c2, c3, c4, c5, c6, c7, c8, c9, c10, c11].drop 3).take (Tryd.prog.cellsOf 4)) = [y0, y1, y2, y3, y4, y5, y6, y7, y8, y9, y10, y11][3]? := hf 3 _ rfl
    have g4 : DataW.trod enc Tryd.prog w base spare held n 4 (([c0, c1, c2, c3, c4, c5, c6, c7, c8, c9, c10, c11].drop 4).take (Tryd.prog.cellsOf 4)) = [y0, y1, y2, y3, y4, y5, y6, y7, y8, y9, y10, y11][4]? := hf 4 _ rfl
    have g5 : DataW.trod enc Tryd.prog w base spare held n 4 (([c0, c1, c2, c3, c4, c5, c6, c7, c8, c9, c10, c11].drop 5).take (Tryd.prog.cellsOf 4)) = [y0, y1, y2, y3, y4, y5, y6, y7, y8, y9, y10, y11][5]? := hf 5 _ rfl
    have g6 : DataW.trod enc Tryd.prog w base spare held n 3 (([c0, c1, c2, c3, c4, c5, c6, c7, c8, c9, c10, c11].drop 6).take (Tryd.prog.cellsOf 3)) = [y0, y1, y2, y3, y4, y5, y6, y7, y8, y9, y10, y11][6]? := hf 6 _ rfl
    have g7 : DataW.trod enc Tryd.prog w base spare held n 3 (([c0, c1, c2, c3, c4, c5, c6, c7, c8, c9, c10, c11].drop 7).take (Tryd.prog.cellsOf 3)) = [y0, y1, y2, y3, y4, y5, y6, y7, y8, y9, y10, y11][7]? := hf 7 _ rfl
    have g8 : DataW.trod enc Tryd.prog w base spare held n 3 (([c0, c1, c2, c3, c4, c5, c6, c7, c8, c9, c10, c11].drop 8).take (Tryd.prog.cellsOf 3)) = [y0, y1, y2, y3, y4, y5, y6, y7, y8, y9, y10, y11][8]? := hf 8 _ rfl
    have g9 : DataW.trod enc Tryd.prog w base spare held n 3 (([c0, c1, c2, c3, c4, c5, c6, c7, c8, c9, c10, c11].drop 9).take (Tryd.prog.cellsOf 3)) = [y0, y1, y2, y3, y4, y5, y6, y7, y8, y9, y10, y11][9]? := hf 9 _ rfl
    have g10 : DataW.trod enc Tryd.prog w base spare held n 3 (([c0, c1, c2, c3, c4, c5, c6, c7, c8, c9, c10, c11].drop 10).take (Tryd.prog.cellsOf 3)) = [y0, y1, y2, y3, y4, y5, y6, y7, y8, y9, y10, y11][10]? := hf 10 _ rfl
    have g11 : DataW.trod enc Tryd.prog w base spare held n 3 (([c0, c1, c2, c3, c4, c5, c6, c7, c8, c9, c10, c11].drop 11).take (Tryd.prog.cellsOf 3)) = [y0, y1, y2, y3, y4, y5, y6, y7, y8, y9, y10, y11][11]? := hf 11 _ rfl
    rw [show Tryd.prog.cellsOf 4 = 1 from by kernel_rfl] at g0
    simp only [List.drop_succ_cons, List.drop_zero, List.take_succ_cons, List.take_zero, List.getElem?_cons_succ, List.getElem?_cons_zero] at g0
    obtain ⟨x_0, e0, d0⟩ := DataW.trod_bool Tryd.underlying4 g0
    simp only [List.cons.injEq, and_true] at e0
    subst e0
    rw [show Tryd.prog.cellsOf 4 = 1 from by kernel_rfl] at g1
    simp only [List.drop_succ_cons, List.drop_zero, List.take_succ_cons, List.take_zero, List.getElem?_cons_succ, List.getElem?_cons_zero] at g1
    obtain ⟨x_1, e1, d1⟩ := DataW.trod_bool Tryd.underlying4 g1
    simp only [List.cons.injEq, and_true] at e1
    subst e1
    rw [show Tryd.prog.cellsOf 4 = 1 from by kernel_rfl] at g2
    simp only [List.drop_succ_cons, List.drop_zero, List.take_succ_cons, List.take_zero, List.getElem?_cons_succ, List.getElem?_cons_zero] at g2
    obtain ⟨x_2, e2, d2⟩ := DataW.trod_bool Tryd.underlying4 g2
    simp only [List.cons.injEq, and_true] at e2
    subst e2
    rw [show Tryd.prog.cellsOf 4 = 1 from by kernel_rfl] at g3
    simp only [List.drop_succ_cons, List.drop_zero, List.take_succ_cons, List.take_zero, List.getElem?_cons_succ, List.getElem?_cons_zero] at g3
    obtain ⟨x_3, e3, d3⟩ := DataW.trod_bool Tryd.underlying4 g3
    simp only [List.cons.injEq, and_true] at e3
    subst e3
    rw [show Tryd.prog.cellsOf 4 = 1 from by kernel_rfl] at g4
    simp only [List.drop_succ_cons, List.drop_zero, List.take_succ_cons, List.take_zero, List.getElem?_cons_succ, List.getElem?_cons_zero] at g4
    obtain ⟨x_4, e4, d4⟩ := DataW.trod_bool Tryd.underlying4 g4
    simp only [List.cons.injEq, and_true] at e4
    subst e4
    rw [show Tryd.prog.cellsOf 4 = 1 from by kernel_rfl] at g5
    simp only [List.drop_succ_cons, List.drop_zero, List.take_succ_cons, List.take_zero, List.getElem?_cons_succ, List.getElem?_cons_zero] at g5
    obtain ⟨x_5, e5, d5⟩ := DataW.trod_bool Tryd.underlying4 g5
    simp only [List.cons.injEq, and_true] at e5
    subst e5
    rw [show Tryd.prog.cellsOf 3 = 1 from by kernel_rfl] at g6
    simp only [List.drop_succ_cons, List.drop_zero, List.take_succ_cons, List.take_zero, List.getElem?_cons_succ, List.getElem?_cons_zero] at g6
    obtain ⟨x_6, e6, d6, f6_0⟩ := DataW.trod_int Tryd.underlying3 g6
    simp only [List.cons.injEq, and_true] at e6
    subst e6
    rw [show Tryd.prog.cellsOf 3 = 1 from by kernel_rfl] at g7
    simp only [List.drop_succ_cons, List.drop_zero, List.take_succ_cons, List.take_zero, List.getElem?_cons_succ, List.getElem?_cons_zero] at g7
    obtain ⟨x_7, e7, d7, f7_0⟩ := DataW.trod_int Tryd.underlying3 g7
    simp only [List.cons.injEq, and_true] at e7
    subst e7
    rw [show Tryd.prog.cellsOf 3 = 1 from by kernel_rfl] at g8
    simp only [List.drop_succ_cons, List.drop_zero, List.take_succ_cons, List.take_zero, List.getElem?_cons_succ, List.getElem?_cons_zero] at g8
    obtain ⟨x_8, e8, d8, f8_0⟩ := DataW.trod_int Tryd.underlying3 g8
    simp only [List.cons.injEq, and_true] at e8
    subst e8
    rw [show Tryd.prog.cellsOf 3 = 1 from by kernel_rfl] at g9
    simp only [List.drop_succ_cons, List.drop_zero, List.take_succ_cons, List.take_zero, List.getElem?_cons_succ, List.getElem?_cons_zero] at g9
    obtain ⟨x_9, e9, d9, f9_0⟩ := DataW.trod_int Tryd.underlying3 g9
    simp only [List.cons.injEq, and_true] at e9
    subst e9
    rw [show Tryd.prog.cellsOf 3 = 1 from by kernel_rfl] at g10
    simp only [List.drop_succ_cons, List.drop_zero, List.take_succ_cons, List.take_zero, List.getElem?_cons_succ, List.getElem?_cons_zero] at g10
    obtain ⟨x_10, e10, d10, f10_0⟩ := DataW.trod_int Tryd.underlying3 g10
    simp only [List.cons.injEq, and_true] at e10
    subst e10
    rw [show Tryd.prog.cellsOf 3 = 1 from by kernel_rfl] at g11
    simp only [List.drop_succ_cons, List.drop_zero, List.take_succ_cons, List.take_zero, List.getElem?_cons_succ, List.getElem?_cons_zero] at g11
    obtain ⟨x_11, e11, d11, f11_0⟩ := DataW.trod_int Tryd.underlying3 g11
    simp only [List.cons.injEq, and_true] at e11
    subst e11
    refine ⟨x_0, x_1, x_2, x_3, x_4, x_5, x_6, x_7, x_8, x_9, x_10, x_11, rfl, ?_, f6_0, f7_0, f8_0, f9_0, f10_0, f11_0⟩
    simp only [List.map_cons, List.map_nil, show y0.1 = _ from congrArg Prod.fst d0, show y1.1 = _ from congrArg Prod.fst d1, show y2.1 = _ from congrArg Prod.fst d2, show y3.1 = _ from congrArg Prod.fst d3, show y4.1 = _ from congrArg Prod.fst d4, show y5.1 = _ from congrArg Prod.fst d5, show y6.1 = _ from congrArg Prod.fst d6, show y7.1 = _ from congrArg Prod.fst d7, show y8.1 = _ from congrArg Prod.fst d8, show y9.1 = _ from congrArg Prod.fst d9, show y10.1 = _ from congrArg Prod.fst d10, show y11.1 = _ from congrArg Prod.fst d11]
set_option maxRecDepth 100000 in
theorem open_Dr {r : Reach} {b0 : Nat} {v : Value} {d : DataW H} {p : List MemPlace} (hv : Value.okWide Tryd.prog w r b0 61 v) (h : DataW.Trod enc Tryd.prog w base spare held 61 v d p) :
    ∃ (x_0 : Bool) (x_1 : Bool) (x_2 : Bool) (x_3 : Bool) (x_4 : Bool) (x_5 : Bool) (x_6 : Int) (x_7 : Int) (x_8 : Int) (x_9 : Int) (x_10 : Int) (x_11 : Int), v = .agg #[.bool x_0, .bool x_1, .bool x_2, .bool x_3, .bool x_4, .bool x_5, .int .i64 x_6, .int .i64 x_7, .int .i64 x_8, .int .i64 x_9, .int .i64 x_10, .int .i64 x_11] ∧ d = .agg [.lit (.bool x_0), .lit (.bool x_1), .lit (.bool x_2), .lit (.bool x_3), .lit (.bool x_4), .lit (.bool x_5), .lit (.int .i64 x_6), .lit (.int .i64 x_7), .lit (.int .i64 x_8), .lit (.int .i64 x_9), .lit (.int .i64 x_10), .lit (.int .i64 x_11)] ∧ ((Lit.int .i64 x_6).wf = true ∧ (Lit.int .i64 x_7).wf = true ∧ (Lit.int .i64 x_8).wf = true ∧ (Lit.int .i64 x_9).wf = true ∧ (Lit.int .i64 x_10).wf = true ∧ (Lit.int .i64 x_11).wf = true) := by
  obtain ⟨⟨cs⟩, fuel, rfl, hf⟩ := open_agg Tryd.underlying61 hv h
  obtain ⟨x_0, x_1, x_2, x_3, x_4, x_5, x_6, x_7, x_8, x_9, x_10, x_11, hcs, hd, hfa⟩ := c_Dr hf
  exact ⟨x_0, x_1, x_2, x_3, x_4, x_5, x_6, x_7, x_8, x_9, x_10, x_11, by rw [show cs = _ from hcs], hd, hfa⟩
end
end Go.Proofs.YtocniclkooiggaaDoor

namespace Go.Proofs.YtocniclkooiggaaDoor
open Go.ChangeShapes Go.WideShapes Go.Deep Go.RowKit

section
variable {H : Type} {enc : TypeId × Value → H} {P : Program} {w : World} {base : Nat} {spare : Nat → Bool} {held : Bool}
/-- A slice of pairs of strings, opened, with its bulk. -/
theorem open_fldsU {t e S : TypeId} {A : Option Addr} {n c : Nat} {d : DataW H} {p : List MemPlace} (ht : P.underlying t = some (.slice e)) (he : TwoStr P e S)
    (h : DataW.Trod enc P w base spare held t (.slice A n c) d p) :
    ∃ L : List Fd, RdF w A n L ∧ n ≤ maxLen ∧ n ≤ c ∧ 3 * L.length + sumF L + 1 ≤ Rows.uptoBulk d := by
  obtain ⟨fuel, hf⟩ := h
  have hf' : DataW.trod enc P w base spare held fuel t [.slice A n c] = some (d, p) := by simpa [Value.cells] using hf
  rcases open_slice ht hf' with ⟨hcs, hx⟩ | ⟨a, len, cap, m, k, D, Pl, hcs, hb, hl, hm, hmm, hx, hi⟩
  · simp only [List.cons.injEq, Value.slice.injEq, and_true] at hcs
    obtain ⟨rfl, rfl, rfl⟩ := hcs
    exact ⟨[], Rd.none_ _ _ _, by simp [maxLen], Nat.le_refl _, by obtain rfl : d = .nil := congrArg Prod.fst hx; simp [sumF, Rows.uptoBulk]⟩
  · simp only [List.cons.injEq, Value.slice.injEq, and_true] at hcs
    obtain ⟨rfl, rfl, rfl⟩ := hcs
    obtain ⟨f0, f1, hu, t0, t1, o0, o1, hS, hc, hce⟩ := id he
    rw [hce] at hi
    have hnm : n ≤ m := by rw [hmm]; split <;> omega
    obtain ⟨F, hF⟩ := choose_lt (α := Fd) (n := m) (p := fun i f => w.cell? (a.add (i * 2)) = some (.string f.1) ∧ w.cell? (a.add (i * 2 + 1)) = some (.string f.2) ∧ D i = .agg [.lit (.string f.1.data.toList), .lit (.string f.2.data.toList)]) (fun i him => by
      obtain ⟨cs', h1, h2⟩ := hi i him
      obtain ⟨_, _, hat⟩ := World.cells?_some h1
      obtain ⟨u, v, rfl, hd, _, _⟩ := trod_twoStr he h2
      have c0 := hat 0 (by omega)
      have c1 := hat 1 (by omega)
      rw [Go.Deep.add_add] at c0 c1
      exact ⟨(u, v), by simpa using c0, by simpa using c1, hd⟩)
    have hlen : ((List.range n).map F).length = n := by simp
    refine ⟨(List.range n).map F, ⟨by rw [fldCells_len, hlen], fun hpos => ?_⟩, by omega, hl, ?_⟩
    · have hn0 : 0 < n := by rw [fldCells_len, hlen] at hpos; omega
      obtain ⟨b, o, sp⟩ := a
      have hsp : sp = none := by simpa [Addr.add] using World.cell?_spot (hF 0 (by omega)).1
      subst hsp
      refine ⟨b, o, rfl, fun j u hj => ?_⟩
      have hjl : j < n * 2 := by
        have := (List.getElem?_eq_some_iff.1 hj).1
        rw [fldCells_len, hlen] at this; exact this
      have hlt : j / 2 < ((List.range n).map F).length := by rw [hlen]; omega
      have hcells := hF (j / 2) (by omega)
      rw [add_plain, add_plain] at hcells
      have hFe : ((List.range n).map F)[j / 2] = F (j / 2) := by simp
      rcases Nat.mod_two_eq_zero_or_one j with h0 | h1
      · have e : j = j / 2 * 2 := by omega
        rw [e, fldCells_at0 _ _ hlt, hFe] at hj
        rw [e, ← hj]
        have e2 : j / 2 * 2 / 2 = j / 2 := by omega
        exact hcells.1
      · have e : j = j / 2 * 2 + 1 := by omega
        rw [e, fldCells_at1 _ _ hlt, hFe] at hj
        rw [e, ← hj]
        exact hcells.2.1
    · have hx1 : d = DataW.slice ((List.range n).map D) ((List.range (m - n)).map fun j => D (n + j)) := congrArg Prod.fst hx
      have hm2 : (List.range n).map D = ((List.range n).map F).map fun f => DataW.agg [.lit (.string f.1.data.toList), .lit (.string f.2.data.toList)] := by
        rw [List.map_map]
        exact List.map_congr_left fun i hi => (hF i (by have := List.mem_range.1 hi; omega)).2.2
      rw [hx1, hm2]
      simp only [Rows.uptoBulk]
      have := bulk_flds (H := H) ((List.range n).map F)
      omega
end
end Go.Proofs.YtocniclkooiggaaDoor

namespace Go.Proofs.YtocniclkooiggaaDoor
open Go.ChangeShapes Go.WideShapes Go.RowKit Go.Deep Go.Joins
section
variable {H : Type} {enc : TypeId × Value → H} {w : World} {base : Nat} {spare : Nat → Bool} {held : Bool}
set_option maxRecDepth 100000 in
theorem c_Tm13 {fuel : Nat} {cs : List Value} {x : DataW H × List MemPlace} (h : DataW.trod enc Tryd.prog w base spare held fuel 58 cs = some x) :
    ∃ (x_0 : Int) (x_1 : Int) (x_2 : Int), cs = [.int .i64 x_0, .int .i64 x_1, .int .i64 x_2] ∧ x.1 = .agg [.lit (.int .i64 x_0), .lit (.int .i64 x_1), .lit (.int .i64 x_2)] ∧ ((Lit.int .i64 x_0).wf = true ∧ (Lit.int .i64 x_1).wf = true ∧ (Lit.int .i64 x_2).wf = true) := by
  obtain ⟨xs, n, _, rfl, hl, hlen, hf⟩ := DataW.trod_struct Tryd.underlying58 h
  rw [show Tryd.prog.cellsOf 58 = 3 from by kernel_rfl] at hl
  match cs, hl with
  | [c0, c1, c2], _ =>
  have hlen : xs.length = 3 := hlen
  match xs, hlen with
  | [y0, y1, y2], _ =>
    have g0 : DataW.trod enc Tryd.prog w base spare held n 3 (([c0, c1, c2].drop 0).take (Tryd.prog.cellsOf 3)) = [y0, y1, y2][0]? := hf 0 _ rfl
    have g1 : DataW.trod enc Tryd.prog w base spare held n 3 (([c0, c1, c2].drop 1).take (Tryd.prog.cellsOf 3)) = [y0, y1, y2][1]? := hf 1 _ rfl
    have g2 : DataW.trod enc Tryd.prog w base spare held n 3 (([c0, c1, c2].drop 2).take (Tryd.prog.cellsOf 3)) = [y0, y1, y2][2]? := hf 2 _ rfl
    rw [show Tryd.prog.cellsOf 3 = 1 from by kernel_rfl] at g0
    simp only [List.drop_succ_cons, List.drop_zero, List.take_succ_cons, List.take_zero, List.getElem?_cons_succ, List.getElem?_cons_zero] at g0
    obtain ⟨x_0, e0, d0, f0_0⟩ := DataW.trod_int Tryd.underlying3 g0
    simp only [List.cons.injEq, and_true] at e0
    subst e0
    rw [show Tryd.prog.cellsOf 3 = 1 from by kernel_rfl] at g1
    simp only [List.drop_succ_cons, List.drop_zero, List.take_succ_cons, List.take_zero, List.getElem?_cons_succ, List.getElem?_cons_zero] at g1
    obtain ⟨x_1, e1, d1, f1_0⟩ := DataW.trod_int Tryd.underlying3 g1
    simp only [List.cons.injEq, and_true] at e1
    subst e1
    rw [show Tryd.prog.cellsOf 3 = 1 from by kernel_rfl] at g2
    simp only [List.drop_succ_cons, List.drop_zero, List.take_succ_cons, List.take_zero, List.getElem?_cons_succ, List.getElem?_cons_zero] at g2
    obtain ⟨x_2, e2, d2, f2_0⟩ := DataW.trod_int Tryd.underlying3 g2
    simp only [List.cons.injEq, and_true] at e2
    subst e2
    refine ⟨x_0, x_1, x_2, rfl, ?_, f0_0, f1_0, f2_0⟩
    simp only [List.map_cons, List.map_nil, show y0.1 = _ from congrArg Prod.fst d0, show y1.1 = _ from congrArg Prod.fst d1, show y2.1 = _ from congrArg Prod.fst d2]
set_option maxRecDepth 100000 in
theorem c_Sd17 {fuel : Nat} {cs : List Value} {x : DataW H × List MemPlace} (h : DataW.trod enc Tryd.prog w base spare held fuel 60 cs = some x) :
    ∃ (x_0 : Int) (x_1A : Option Addr) (x_1n : Nat) (x_1c : Nat) (x_1d : DataW H) (x_1p : List MemPlace) (x_2_0 : Int) (x_2_1 : Int) (x_2_2 : Int) (x_3 : Bool), cs = [.int .i64 x_0, .slice x_1A x_1n x_1c, .int .i64 x_2_0, .int .i64 x_2_1, .int .i64 x_2_2, .bool x_3] ∧ x.1 = .agg [.lit (.int .i64 x_0), x_1d, .agg [.lit (.int .i64 x_2_0), .lit (.int .i64 x_2_1), .lit (.int .i64 x_2_2)], .lit (.bool x_3)] ∧ ((Lit.int .i64 x_0).wf = true ∧ DataW.Trod enc Tryd.prog w base spare held 57 (.slice x_1A x_1n x_1c) x_1d x_1p ∧ (Lit.int .i64 x_2_0).wf = true ∧ (Lit.int .i64 x_2_1).wf = true ∧ (Lit.int .i64 x_2_2).wf = true) := by
  obtain ⟨xs, n, _, rfl, hl, hlen, hf⟩ := DataW.trod_struct Tryd.underlying60 h
  rw [show Tryd.prog.cellsOf 60 = 6 from by kernel_rfl] at hl
  match cs, hl with
  | [c0, c1, c2, c3, c4, c5], _ =>
  have hlen : xs.length = 4 := hlen
  match xs, hlen with
  | [y0, y1, y2, y3], _ =>
    have g0 : DataW.trod enc Tryd.prog w base spare held n 3 (([c0, c1, c2, c3, c4, c5].drop 0).take (Tryd.prog.cellsOf 3)) = [y0, y1, y2, y3][0]? := hf 0 _ rfl
    have g1 : DataW.trod enc Tryd.prog w base spare held n 57 (([c0, c1, c2, c3, c4, c5].drop 1).take (Tryd.prog.cellsOf 57)) = [y0, y1, y2, y3][1]? := hf 1 _ rfl
    have g2 : DataW.trod enc Tryd.prog w base spare held n 58 (([c0, c1, c2, c3, c4, c5].drop 2).take (Tryd.prog.cellsOf 58)) = [y0, y1, y2, y3][2]? := hf 2 _ rfl
    have g3 : DataW.trod enc Tryd.prog w base spare held n 4 (([c0, c1, c2, c3, c4, c5].drop 5).take (Tryd.prog.cellsOf 4)) = [y0, y1, y2, y3][3]? := hf 3 _ rfl
    rw [show Tryd.prog.cellsOf 3 = 1 from by kernel_rfl] at g0
    simp only [List.drop_succ_cons, List.drop_zero, List.take_succ_cons, List.take_zero, List.getElem?_cons_succ, List.getElem?_cons_zero] at g0
    obtain ⟨x_0, e0, d0, f0_0⟩ := DataW.trod_int Tryd.underlying3 g0
    simp only [List.cons.injEq, and_true] at e0
    subst e0
    rw [show Tryd.prog.cellsOf 57 = 1 from by kernel_rfl] at g1
    simp only [List.drop_succ_cons, List.drop_zero, List.take_succ_cons, List.take_zero, List.getElem?_cons_succ, List.getElem?_cons_zero] at g1
    obtain ⟨x_1A, x_1n, x_1c, e1, f1_0⟩ := c_slice Tryd.underlying57 g1
    simp only [List.cons.injEq, and_true] at e1
    subst e1
    rw [show Tryd.prog.cellsOf 58 = 3 from by kernel_rfl] at g2
    simp only [List.drop_succ_cons, List.drop_zero, List.take_succ_cons, List.take_zero, List.getElem?_cons_succ, List.getElem?_cons_zero] at g2
    obtain ⟨x_2_0, x_2_1, x_2_2, e2, d2, f2_0, f2_1, f2_2⟩ := c_Tm13 g2
    simp only [List.cons.injEq, and_true] at e2
    obtain ⟨rfl, rfl, rfl⟩ := e2
    rw [show Tryd.prog.cellsOf 4 = 1 from by kernel_rfl] at g3
    simp only [List.drop_succ_cons, List.drop_zero, List.take_succ_cons, List.take_zero, List.getElem?_cons_succ, List.getElem?_cons_zero] at g3
    obtain ⟨x_3, e3, d3⟩ := DataW.trod_bool Tryd.underlying4 g3
    simp only [List.cons.injEq, and_true] at e3
    subst e3
    refine ⟨x_0, x_1A, x_1n, x_1c, _, _, x_2_0, x_2_1, x_2_2, x_3, rfl, ?_, f0_0, f1_0, f2_0, f2_1, f2_2⟩
    simp only [List.map_cons, List.map_nil, show y0.1 = _ from congrArg Prod.fst d0, d2, show y3.1 = _ from congrArg Prod.fst d3]
set_option maxRecDepth 100000 in
theorem c_Mo {fuel : Nat} {cs : List Value} {x : DataW H × List MemPlace} (h : DataW.trod enc Tryd.prog w base spare held fuel 63 cs = some x) :
    ∃ (x_0 : Int) (x_1 : Int), cs = [.int .i64 x_0, .int .i64 x_1] ∧ x.1 = .agg [.lit (.int .i64 x_0), .lit (.int .i64 x_1)] ∧ ((Lit.int .i64 x_0).wf = true ∧ (Lit.int .i64 x_1).wf = true) := by
  obtain ⟨xs, n, _, rfl, hl, hlen, hf⟩ := DataW.trod_struct Tryd.underlying63 h
  rw [show Tryd.prog.cellsOf 63 = 2 from by kernel_rfl] at hl
  match cs, hl with
  | [c0, c1], _ =>
  have hlen : xs.length = 2 := hlen
  match xs, hlen with
  | [y0, y1], _ =>
    have g0 : DataW.trod enc Tryd.prog w base spare held n 3 (([c0, c1].drop 0).take (Tryd.prog.cellsOf 3)) = [y0, y1][0]? := hf 0 _ rfl
    have g1 : DataW.trod enc Tryd.prog w base spare held n 3 (([c0, c1].drop 1).take (Tryd.prog.cellsOf 3)) = [y0, y1][1]? := hf 1 _ rfl
    rw [show Tryd.prog.cellsOf 3 = 1 from by kernel_rfl] at g0
    simp only [List.drop_succ_cons, List.drop_zero, List.take_succ_cons, List.take_zero, List.getElem?_cons_succ, List.getElem?_cons_zero] at g0
    obtain ⟨x_0, e0, d0, f0_0⟩ := DataW.trod_int Tryd.underlying3 g0
    simp only [List.cons.injEq, and_true] at e0
    subst e0
    rw [show Tryd.prog.cellsOf 3 = 1 from by kernel_rfl] at g1
    simp only [List.drop_succ_cons, List.drop_zero, List.take_succ_cons, List.take_zero, List.getElem?_cons_succ, List.getElem?_cons_zero] at g1
    obtain ⟨x_1, e1, d1, f1_0⟩ := DataW.trod_int Tryd.underlying3 g1
    simp only [List.cons.injEq, and_true] at e1
    subst e1
    refine ⟨x_0, x_1, rfl, ?_, f0_0, f1_0⟩
    simp only [List.map_cons, List.map_nil, show y0.1 = _ from congrArg Prod.fst d0, show y1.1 = _ from congrArg Prod.fst d1]
set_option maxRecDepth 100000 in
theorem c_Life {fuel : Nat} {cs : List Value} {x : DataW H × List MemPlace} (h : DataW.trod enc Tryd.prog w base spare held fuel 77 cs = some x) :
    ∃ (x_0 : Int) (x_1 : Int) (x_2 : Int) (x_3 : Int) (x_4 : Int) (x_5 : Bool) (x_6 : Int), cs = [.int .u16 x_0, .int .u16 x_1, .int .u16 x_2, .int .u8 x_3, .int .u8 x_4, .bool x_5, .int .i64 x_6] ∧ x.1 = .agg [.lit (.int .u16 x_0), .lit (.int .u16 x_1), .lit (.int .u16 x_2), .lit (.int .u8 x_3), .lit (.int .u8 x_4), .lit (.bool x_5), .lit (.int .i64 x_6)] ∧ ((Lit.int .u16 x_0).wf = true ∧ (Lit.int .u16 x_1).wf = true ∧ (Lit.int .u16 x_2).wf = true ∧ (Lit.int .u8 x_3).wf = true ∧ (Lit.int .u8 x_4).wf = true ∧ (Lit.int .i64 x_6).wf = true) := by
  obtain ⟨xs, n, _, rfl, hl, hlen, hf⟩ := DataW.trod_struct Tryd.underlying77 h
  rw [show Tryd.prog.cellsOf 77 = 7 from by kernel_rfl] at hl
  match cs, hl with
  | [c0, c1, c2, c3, c4, c5, c6], _ =>
  have hlen : xs.length = 7 := hlen
  match xs, hlen with
  | [y0, y1, y2, y3, y4, y5, y6], _ =>
    have g0 : DataW.trod enc Tryd.prog w base spare held n 24 (([c0, c1, c2, c3, c4, c5, c6].drop 0).take (Tryd.prog.cellsOf 24)) = [y0, y1, y2, y3, y4, y5, y6][0]? := hf 0 _ rfl
    have g1 : DataW.trod enc Tryd.prog w base spare held n 24 (([c0, c1, c2, c3, c4, c5, c6].drop 1).take (Tryd.prog.cellsOf 24)) = [y0, y1, y2, y3, y4, y5, y6][1]? := hf 1 _ rfl
    have g2 : DataW.trod enc Tryd.prog w base spare held n 24 (([c0, c1, c2, c3, c4, c5, c6].drop 2).take (Tryd.prog.cellsOf 24)) = [y0, y1, y2, y3, y4, y5, y6][2]? := hf 2 _ rfl
    have g3 : DataW.trod enc Tryd.prog w base spare held n 5 (([c0, c1, c2, c3, c4, c5, c6].drop 3).take (Tryd.prog.cellsOf 5)) = [y0, y1, y2, y3, y4, y5, y6][3]? := hf 3 _ rfl
    have g4 : DataW.trod enc Tryd.prog w base spare held n 5 (([c0, c1, c2, c3, c4, c5, c6].drop 4).take (Tryd.prog.cellsOf 5)) = [y0, y1, y2, y3, y4, y5, y6][4]? := hf 4 _ rfl
    have g5 : DataW.trod enc Tryd.prog w base spare held n 4 (([c0, c1, c2, c3, c4, c5, c6].drop 5).take (Tryd.prog.cellsOf 4)) = [y0, y1, y2, y3, y4, y5, y6][5]? := hf 5 _ rfl
    have g6 : DataW.trod enc Tryd.prog w base spare held n 3 (([c0, c1, c2, c3, c4, c5, c6].drop 6).take (Tryd.prog.cellsOf 3)) = [y0, y1, y2, y3, y4, y5, y6][6]? := hf 6 _ rfl
    rw [show Tryd.prog.cellsOf 24 = 1 from by kernel_rfl] at g0
    simp only [List.drop_succ_cons, List.drop_zero, List.take_succ_cons, List.take_zero, List.getElem?_cons_succ, List.getElem?_cons_zero] at g0
    obtain ⟨x_0, e0, d0, f0_0⟩ := DataW.trod_int Tryd.underlying24 g0
    simp only [List.cons.injEq, and_true] at e0
    subst e0
    rw [show Tryd.prog.cellsOf 24 = 1 from by kernel_rfl] at g1
    simp only [List.drop_succ_cons, List.drop_zero, List.take_succ_cons, List.take_zero, List.getElem?_cons_succ, List.getElem?_cons_zero] at g1
    obtain ⟨x_1, e1, d1, f1_0⟩ := DataW.trod_int Tryd.underlying24 g1
    simp only [List.cons.injEq, and_true] at e1
    subst e1
    rw [show Tryd.prog.cellsOf 24 = 1 from by kernel_rfl] at g2
    simp only [List.drop_succ_cons, List.drop_zero, List.take_succ_cons, List.take_zero, List.getElem?_cons_succ, List.getElem?_cons_zero] at g2
    obtain ⟨x_2, e2, d2, f2_0⟩ := DataW.trod_int Tryd.underlying24 g2
    simp only [List.cons.injEq, and_true] at e2
    subst e2
    rw [show Tryd.prog.cellsOf 5 = 1 from by kernel_rfl] at g3
    simp only [List.drop_succ_cons, List.drop_zero, List.take_succ_cons, List.take_zero, List.getElem?_cons_succ, List.getElem?_cons_zero] at g3
    obtain ⟨x_3, e3, d3, f3_0⟩ := DataW.trod_int Tryd.underlying5 g3
    simp only [List.cons.injEq, and_true] at e3
    subst e3
    rw [show Tryd.prog.cellsOf 5 = 1 from by kernel_rfl] at g4
    simp only [List.drop_succ_cons, List.drop_zero, List.take_succ_cons, List.take_zero, List.getElem?_cons_succ, List.getElem?_cons_zero] at g4
    obtain ⟨x_4, e4, d4, f4_0⟩ := DataW.trod_int Tryd.underlying5 g4
    simp only [List.cons.injEq, and_true] at e4
    subst e4
    rw [show Tryd.prog.cellsOf 4 = 1 from by kernel_rfl] at g5
    simp only [List.drop_succ_cons, List.drop_zero, List.take_succ_cons, List.take_zero, List.getElem?_cons_succ, List.getElem?_cons_zero] at g5
    obtain ⟨x_5, e5, d5⟩ := DataW.trod_bool Tryd.underlying4 g5
    simp only [List.cons.injEq, and_true] at e5
    subst e5
    rw [show Tryd.prog.cellsOf 3 = 1 from by kernel_rfl] at g6
    simp only [List.drop_succ_cons, List.drop_zero, List.take_succ_cons, List.take_zero, List.getElem?_cons_succ, List.getElem?_cons_zero] at g6
    obtain ⟨x_6, e6, d6, f6_0⟩ := DataW.trod_int Tryd.underlying3 g6
    simp only [List.cons.injEq, and_true] at e6
    subst e6
    refine ⟨x_0, x_1, x_2, x_3, x_4, x_5, x_6, rfl, ?_, f0_0, f1_0, f2_0, f3_0, f4_0, f6_0⟩
    simp only [List.map_cons, List.map_nil, show y0.1 = _ from congrArg Prod.fst d0, show y1.1 = _ from congrArg Prod.fst d1, show y2.1 = _ from congrArg Prod.fst d2, show y3.1 = _ from congrArg Prod.fst d3, show y4.1 = _ from congrArg Prod.fst d4, show y5.1 = _ from congrArg Prod.fst d5, show y6.1 = _ from congrArg Prod.fst d6]
set_option maxRecDepth 100000 in
theorem open_Sd17 {r : Reach} {b0 : Nat} {v : Value} {d : DataW H} {p : List MemPlace} (hv : Value.okWide Tryd.prog w r b0 60 v) (h : DataW.Trod enc Tryd.prog w base spare held 60 v d p) :
    ∃ (x_0 : Int) (x_1A : Option Addr) (x_1n : Nat) (x_1c : Nat) (x_1d : DataW H) (x_1p : List MemPlace) (x_2_0 : Int) (x_2_1 : Int) (x_2_2 : Int) (x_3 : Bool), v = .agg #[.int .i64 x_0, .slice x_1A x_1n x_1c, .int .i64 x_2_0, .int .i64 x_2_1, .int .i64 x_2_2, .bool x_3] ∧ d = .agg [.lit (.int .i64 x_0), x_1d, .agg [.lit (.int .i64 x_2_0), .lit (.int .i64 x_2_1), .lit (.int .i64 x_2_2)], .lit (.bool x_3)] ∧ ((Lit.int .i64 x_0).wf = true ∧ DataW.Trod enc Tryd.prog w base spare held 57 (.slice x_1A x_1n x_1c) x_1d x_1p ∧ (Lit.int .i64 x_2_0).wf = true ∧ (Lit.int .i64 x_2_1).wf = true ∧ (Lit.int .i64 x_2_2).wf = true) := by
  obtain ⟨⟨cs⟩, fuel, rfl, hf⟩ := open_agg Tryd.underlying60 hv h
  obtain ⟨x_0, x_1A, x_1n, x_1c, x_1d, x_1p, x_2_0, x_2_1, x_2_2, x_3, hcs, hd, hfa⟩ := c_Sd17 hf
  exact ⟨x_0, x_1A, x_1n, x_1c, x_1d, x_1p, x_2_0, x_2_1, x_2_2, x_3, by rw [show cs = _ from hcs], hd, hfa⟩
set_option maxRecDepth 100000 in
theorem open_Mo {r : Reach} {b0 : Nat} {v : Value} {d : DataW H} {p : List MemPlace} (hv : Value.okWide Tryd.prog w r b0 63 v) (h : DataW.Trod enc Tryd.prog w base spare held 63 v d p) :
    ∃ (x_0 : Int) (x_1 : Int), v = .agg #[.int .i64 x_0, .int .i64 x_1] ∧ d = .agg [.lit (.int .i64 x_0), .lit (.int .i64 x_1)] ∧ ((Lit.int .i64 x_0).wf = true ∧ (Lit.int .i64 x_1).wf = true) := by
  obtain ⟨⟨cs⟩, fuel, rfl, hf⟩ := open_agg Tryd.underlying63 hv h
  obtain ⟨x_0, x_1, hcs, hd, hfa⟩ := c_Mo hf
  exact ⟨x_0, x_1, by rw [show cs = _ from hcs], hd, hfa⟩
set_option maxRecDepth 100000 in
theorem open_Life {r : Reach} {b0 : Nat} {v : Value} {d : DataW H} {p : List MemPlace} (hv : Value.okWide Tryd.prog w r b0 77 v) (h : DataW.Trod enc Tryd.prog w base spare held 77 v d p) :
    ∃ (x_0 : Int) (x_1 : Int) (x_2 : Int) (x_3 : Int) (x_4 : Int) (x_5 : Bool) (x_6 : Int), v = .agg #[.int .u16 x_0, .int .u16 x_1, .int .u16 x_2, .int .u8 x_3, .int .u8 x_4, .bool x_5, .int .i64 x_6] ∧ d = .agg [.lit (.int .u16 x_0), .lit (.int .u16 x_1), .lit (.int .u16 x_2), .lit (.int .u8 x_3), .lit (.int .u8 x_4), .lit (.bool x_5), .lit (.int .i64 x_6)] ∧ ((Lit.int .u16 x_0).wf = true ∧ (Lit.int .u16 x_1).wf = true ∧ (Lit.int .u16 x_2).wf = true ∧ (Lit.int .u8 x_3).wf = true ∧ (Lit.int .u8 x_4).wf = true ∧ (Lit.int .i64 x_6).wf = true) := by
  obtain ⟨⟨cs⟩, fuel, rfl, hf⟩ := open_agg Tryd.underlying77 hv h
  obtain ⟨x_0, x_1, x_2, x_3, x_4, x_5, x_6, hcs, hd, hfa⟩ := c_Life hf
  exact ⟨x_0, x_1, x_2, x_3, x_4, x_5, x_6, by rw [show cs = _ from hcs], hd, hfa⟩
set_option maxRecDepth 100000 in
theorem open_Mo2 {v : Value} {d : DataW H} {p : List MemPlace} {r : Reach} {b0 : Nat}
    (hv : Value.okWide Tryd.prog w r b0 70 v) (h : DataW.Trod enc Tryd.prog w base spare held 70 v d p) :
    ∃ a b c e : Int, v = .agg #[.int .i64 a, .int .i64 b, .int .i64 c, .int .i64 e] := by
  simp only [Value.okWide, Tryd.underlying70] at hv
  obtain ⟨cs, rfl, hsz, _⟩ := hv
  rw [show Tryd.prog.cellsOf 70 = 4 from by kernel_rfl] at hsz
  obtain ⟨fuel, hf⟩ := h
  obtain ⟨xs, m, _, hx, _, hlen, hg⟩ := DataW.trod_array Tryd.underlying70 hf
  obtain ⟨l⟩ := cs
  match l, hsz with
  | [c0, c1, c2, c3], _ =>
    match xs, hlen with
    | [y0, y1], _ =>
      have g0 := hg 0 (by omega)
      have g1 := hg 1 (by omega)
      rw [show Tryd.prog.cellsOf 63 = 2 from by kernel_rfl] at g0 g1
      simp only [Value.cells, Nat.zero_mul, List.drop_zero, List.take_succ_cons, List.take_zero, List.getElem?_cons_zero] at g0
      simp only [Value.cells, Nat.one_mul, List.drop_succ_cons, List.drop_zero, List.take_succ_cons, List.take_zero, List.getElem?_cons_succ, List.getElem?_cons_zero] at g1
      obtain ⟨a, b, e1, _⟩ := c_Mo g0
      obtain ⟨c, e, e2, _⟩ := c_Mo g1
      simp only [List.cons.injEq, and_true] at e1 e2
      obtain ⟨rfl, rfl⟩ := e1
      obtain ⟨rfl, rfl⟩ := e2
      exact ⟨a, b, c, e, rfl⟩
end
theorem u16_wf0 {x : Int} (h : (Lit.int .u16 x).wf = true) : 0 ≤ x ∧ x ≤ 65535 := by
  simp [Lit.wf] at h
  have e1 : IntKind.u16.min = 0 := rfl
  have e2 : IntKind.u16.max = 65535 := rfl
  omega
end Go.Proofs.YtocniclkooiggaaDoor

namespace Go.Proofs.YtocniclkooiggaaDoor
open Go.RowKit Go.ChangeShapes

theorem laid_in {P : Program} {W : World} : ∀ {laid : List (String × DataW Unit)} {ps : List MemPlace}, DataW.LaidVars P W laid ps → ∀ x ∈ laid,
    ∃ g t cs fuel p, P.globalNamed x.1 = some g ∧ (P.globals[g]?).map (·.type) = some t ∧ W.var? P x.1 = some cs ∧ DataW.trod (fun _ => ()) P W 0 (fun _ => true) false fuel t cs.toList = some (x.2, p)
  | [], _, _, x, hx => by cases hx
  | (n, d) :: r, ps, h, x, hx => by
    obtain ⟨g, t, cs, fuel, p, q, h1, h2, h3, h4, h5, _⟩ := h
    rcases List.mem_cons.1 hx with rfl | hx
    · exact ⟨g, t, cs, fuel, p, h1, h2, h3, h4⟩
    · exact laid_in h5 x hx
theorem cells_arr {α : Type} {P : Program} {w : World} {base : Nat} {sp : Nat → Bool} {held : Bool} {fuel : Nat} {t e : TypeId} {n : Nat} {cs : List Value} {l : List α} {p : List MemPlace} (lit : α → DataW Unit) (cell : α → Value)
    (ht : P.underlying t = some (.array n e)) (hce : P.cellsOf e = 1) (hct : P.cellsOf t = n)
    (hone : ∀ m c a q, DataW.trod (fun _ => ()) P w base sp held m e [c] = some (lit a, q) → c = cell a)
    (h : DataW.trod (fun _ => ()) P w base sp held fuel t cs = some (.agg (l.map lit), p)) : cs = l.map cell := by
  obtain ⟨xs, m, rfl, hx, hlen, hxl, hg⟩ := DataW.trod_array ht h
  have hm : l.map lit = xs.map (·.1) := by
    have := congrArg Prod.fst hx
    simpa using this
  have hll : l.length = n := by
    have := congrArg List.length hm
    simp at this
    omega
  apply List.ext_getElem (by simp; omega)
  intro i h1 h2
  have hi : i < n := by omega
  have h3 := hg i hi
  rw [hce, Nat.mul_one] at h3
  have h4 : (cs.drop i).take 1 = [cs[i]] := by
    rw [List.drop_eq_getElem_cons h1]; rfl
  have hix : i < xs.length := by omega
  rw [h4, List.getElem?_eq_getElem hix] at h3
  have h5 : lit (l[i]'(by omega)) = (xs[i]).1 := by
    have := congrArg (·[i]?) hm
    simpa [hix, show i < l.length by omega] using this
  rw [List.getElem_map]
  refine hone m _ _ (xs[i]).2 ?_
  rw [h3, h5]
theorem tab_rd {α : Type} {P : Program} {W : World} {laid : List (String × DataW Unit)} {name : String} {g : Nat} {t e : TypeId} {n : Nat} {l : List α} (lit : α → DataW Unit) (cell : α → Value)
    (hp : (laid.all fun x => x.2.handleName?.isNone) = true) (h : laidMetH P laid W) (hin : (name, .agg (l.map lit)) ∈ laid) (hg : P.globalNamed name = some g) (hty : (P.globals[g]?).map (·.type) = some t)
    (ht : P.underlying t = some (.array n e)) (hce : P.cellsOf e = 1) (hct : P.cellsOf t = n)
    (hone : ∀ m c a q, DataW.trod (fun _ => ()) P W 0 (fun _ => true) false m e [c] = some (lit a, q) → c = cell a) (hl : l.length = n) : Rd W 1 (some ⟨g, 0, none⟩) n (l.map cell) := by
  rw [MakeChecks.laidMetH_plain _ _ _ hp] at h
  obtain ⟨ps, hv, _⟩ := h
  obtain ⟨g', t', cs, fuel, p, h1, h2, h3, h4⟩ := laid_in hv _ hin
  obtain rfl := Option.some.inj (hg.symm.trans h1)
  obtain rfl := Option.some.inj (hty.symm.trans h2)
  have hc := cells_arr lit cell ht hce hct hone h4
  refine ⟨by simp [hl], fun _ => ⟨g, 0, rfl, fun j u hu => ?_⟩⟩
  rw [Nat.zero_add, World.var?_cell hg h3 j, ← Array.getElem?_toList, hc]
  exact hu
theorem one_str {P : Program} {w : World} {base : Nat} {sp : Nat → Bool} {held : Bool} {e : TypeId} (he : P.underlying e = some .string) (m : Nat) (c : Value) (a : ByteArray) (q : List MemPlace)
    (h : DataW.trod (fun _ => ()) P w base sp held m e [c] = some (.lit (.string a.data.toList), q)) : c = .string a := by
  obtain ⟨s, h1, h2, _⟩ := DataW.trod_string he h
  simp only [List.cons.injEq, and_true] at h1
  simp only [Prod.mk.injEq, DataW.lit.injEq, Lit.string.injEq] at h2
  rw [h1, bytes_ext h2.1]
theorem one_int {P : Program} {w : World} {base : Nat} {sp : Nat → Bool} {held : Bool} {e : TypeId} {k : IntKind} (he : P.underlying e = some (.int k)) (m : Nat) (c : Value) (a : Int) (q : List MemPlace)
    (h : DataW.trod (fun _ => ()) P w base sp held m e [c] = some (.lit (.int k a), q)) : c = .int k a := by
  obtain ⟨s, h1, h2, _⟩ := DataW.trod_int he h
  simp only [List.cons.injEq, and_true] at h1
  simp only [Prod.mk.injEq, DataW.lit.injEq, Lit.int.injEq, true_and] at h2
  rw [h1, h2.1]
end Go.Proofs.YtocniclkooiggaaDoor

namespace Go.Proofs.YtocniclkooiggaaDoor
open Go.RowKit Go.ChangeShapes

set_option maxRecDepth 100000 in
/-- The three tables of httpdate, out of a row's condition. -/
theorem glH_of {W : World} {laid : List (String × DataW Unit)} (hp : (laid.all fun x => x.2.handleName?.isNone) = true) (h : laidMetH Tryd.prog laid W)
    (h1 : ("quayside/httpdate.months", Rows.laid_quayside_httpdate_months) ∈ laid) (h2 : ("quayside/httpdate.weekdays", Rows.laid_quayside_httpdate_weekdays) ∈ laid) (h3 : ("quayside/httpdate.lengths", Rows.laid_quayside_httpdate_lengths) ∈ laid) : GlH W :=
  ⟨tab_rd (l := moL) (fun s => .lit (.string s.data.toList)) Value.string hp h h1 (by kernel_rfl) (by kernel_rfl) Tryd.underlying126 (by kernel_rfl) (by kernel_rfl) (one_str Tryd.underlying9) rfl,
   tab_rd (l := wdL) (fun s => .lit (.string s.data.toList)) Value.string hp h h2 (by kernel_rfl) (by kernel_rfl) Tryd.underlying141 (by kernel_rfl) (by kernel_rfl) (one_str Tryd.underlying9) rfl,
   tab_rd (l := leL) (fun z => .lit (.int .i64 z)) (Value.int .i64) hp h h3 (by kernel_rfl) (by kernel_rfl) Tryd.underlying150 (by kernel_rfl) (by kernel_rfl) (one_int Tryd.underlying3) rfl⟩
end Go.Proofs.YtocniclkooiggaaDoor
