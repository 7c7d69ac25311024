/- A region that draws its order, with loads that all come ahead of a store: what is to hold until that store has come up. Plain facts on regions, no program in sight. The walks of clock and age: what they compute. No condition beyond those that each states. The walks of policy: ticks, fresh, Judge, OnError, Limit. The walks of field.Size, quaysidelaw02.awake; FieldGets returns true. The walks of field.Remove, quaysideref02.Remove, slices.Clone, slices.Clip, field.Add, quaysideref02.Add. The walk of directive.normal. The walks of the law package's large, awake, Stored, rank, and of quaysidelaw13.Times. The walks of the law package's large and awake; of quaysideref14.Directives, Allowance; of LifetimeAllowances, LifetimeBounds, LifetimeStrict. The walks of quaysideref14.Directives and Allowance; of LifetimeAllowances. The walks of the package quaysideref04's small functions: leap, length, Day, Date, Weekday, number, digits. The walks of the package quaysideref04: number, digits. The walks of the package quaysideref04: Format, Parse. The walk of quaysideref04.Parse: it agrees with httpdate.Parse. The walk of quaysideref14.Date. The walks of quaysideref14.Negative, Cacheable, Of, Explicit; of LifetimeRules. The library's own variable that every call of the package needs, out of a world's shape. The walks of the law package's helpers: Fields, Plain; equality of directives. The walk of the law package's awake. The walks of quaysideref11.time, Normal, present; directive.Merge and quaysideref11.Merge. The walks of quaysideref11.Normal and Merge. The walks of the law package's Program and of DirectiveMerges: it returns true. -/
import Derived.Test.YtocniclkooiggaaGreatDoorJ3
import Derived.Deep.RegionHeld
import Derived.Test.YtocniclkooiggaaGreatDoorChecked
import Derived.Lib.LazyBuf
import Derived.Deep.DeepHandedRow
import Derived.Laws.StructEq
import Derived.KernelRfl
import Derived.Deep.RegionHeld3
set_option linter.unusedSimpArgs false
set_option linter.unusedVariables false
namespace Go.Proofs.YtocniclkooiggaaGreatDoor
open Go

section
variable {P : Program} {ops : Array Oper} {Q : Exit → Act → World → Prop} {md : Region.Mode} {S : World → Prop} {s : Nat}

/-- Whatever order is picked from here on; until number s has come up, S holds behind every operation. -/
def wpAnyU (P : Program) (md : Region.Mode) (ops : Array Oper) (Q : Exit → Act → World → Prop) (S : World → Prop) (s : Nat) : Nat → Array Bool → Act → World → Prop
  | 0, listed, a, w => Region.ready md ops listed = [] ∧ Q .normal a w
  | fuel + 1, listed, a, w =>
    (Region.ready md ops listed = [] → Q .normal a w) ∧
    ∀ i ∈ Region.ready md ops listed, wpOp P ops Q i (fun a' w' => ((listed.setIfInBounds i true).getD s true = false → S w') ∧ wpAnyU P md ops Q S s fuel (listed.setIfInBounds i true) a' w') a w
theorem wpAny_of_U : ∀ (fuel : Nat) (listed : Array Bool) (a : Act) (w : World), wpAnyU P md ops Q S s fuel listed a w → wpAny P md ops Q fuel listed a w
  | 0, _, _, _, h => h
  | fuel + 1, _, _, _, h => ⟨h.1, fun i hi => wpOp_mono (fun a' w' h' => wpAny_of_U fuel _ a' w' h'.2) (h.2 i hi)⟩
theorem listed_stays {listed : Array Bool} {i : Nat} (h : listed.getD s true = true) : (listed.setIfInBounds i true).getD s true = true := by
  by_cases hi : i = s
  · subst hi
    simp [Array.getD]
  · rw [getD_set_ne true hi]; exact h
/-- Behind number s nothing more is asked. -/
theorem wpAnyU_after : ∀ (fuel : Nat) (listed : Array Bool) (a : Act) (w : World), listed.getD s true = true → wpAnyH P md ops Q (fun _ => True) fuel listed a w → wpAnyU P md ops Q S s fuel listed a w
  | 0, _, _, _, _, h => h
  | fuel + 1, listed, _, _, hs, h => ⟨h.1, fun i hi => wpOp_mono (fun a' w' h' => ⟨(fun e => by rw [listed_stays hs] at e; cases e), wpAnyU_after fuel _ a' w' (listed_stays hs) h'.2⟩) (h.2 i hi)⟩
/-- Each of D waits for i or for another one of D. -/
def depB (md : Region.Mode) (ops : Array Oper) (i : Nat) (D : List Nat) : Bool :=
  D.all fun d => match ops[d]? with
    | some o => o.after.any fun e => Region.binds md e && (e.on == i || D.contains e.on)
    | none => false
def unB (listed : Array Bool) (D : List Nat) : Bool := D.all fun d => !listed.getD d true
theorem dep_notready {listed : Array Bool} {i : Nat} {D : List Nat} (hd : depB md ops i D = true) (hu : unB listed D = true) (hi : listed.getD i true = false) {j : Nat} (hj : j ∈ Region.ready md ops listed) : j ∉ D := by
  intro hjD
  have h1 := List.all_eq_true.1 hd j hjD
  obtain ⟨_, oj, hoj, hall⟩ := mem_ready.1 hj
  rw [hoj] at h1
  obtain ⟨e, he, hb⟩ := Array.any_eq_true'.1 h1
  simp only [Bool.and_eq_true, Bool.or_eq_true, beq_iff_eq, List.contains_eq_mem, decide_eq_true_eq] at hb
  have h2 := hall e he hb.1
  have h3 : listed.getD e.on true = false := by
    rcases hb.2 with h | h
    · rw [h]; exact hi
    · simpa using List.all_eq_true.1 hu _ h
  rw [Array.getD_eq_getD_getElem?] at h2 h3
  rcases Nat.lt_or_ge e.on listed.size with hl | hl
  · rw [Array.getElem?_eq_getElem hl] at h2 h3
    simp at h2 h3
    rw [h2] at h3; cases h3
  · rw [Array.getElem?_eq_none hl] at h3
    simp at h3
theorem un_set {listed : Array Bool} {D : List Nat} (hu : unB listed D = true) {j : Nat} (hj : j ∉ D) : unB (listed.setIfInBounds j true) D = true := by
  unfold unB at *
  rw [List.all_eq_true] at *
  intro d hd
  have hne : j ≠ d := fun e => hj (e ▸ hd)
  rw [getD_set_ne true hne]
  exact hu d hd
theorem wpAnyU_first {i : Nat} {oi : Oper} {v : Value} (D : List Nat) (hsD : s ∈ D) (hiD : i ∉ D) (hd : depB md ops i D = true) (hi : ops[i]? = some oi)
    (hsel : ∀ (j : Nat) (o : Oper) cs b, ops[j]? = some o → o.op ≠ .select cs b)
    (hQ : ∀ c a w, Q (.panic c) (a.put oi.dst v) w → Q (.panic c) a w) :
    ∀ (fuel : Nat) (listed : Array Bool) (a : Act) (w : World),
      (∀ j oj, ops[j]? = some oj → j ≠ i → listed.getD j true = false → (∀ e ∈ oj.after, Region.binds md e = true → e.on ≠ i) → oi.apart ops oj = true) →
      i ∈ Region.ready md ops listed → unB listed D = true → YieldsIf P ops S oi v a → S w →
      wpAnyU P md ops Q S s fuel (listed.setIfInBounds i true) (a.put oi.dst v) w → wpAnyU P md ops Q S s (fuel + 1) listed a w := by
  intro fuel
  induction fuel with
  | zero =>
    intro listed a w _ hr hu hy hS H
    refine ⟨fun h => (by rw [h] at hr; cases hr), fun j hj => ?_⟩
    by_cases hji : j = i
    · subst hji; exact hy.wpOp hi hS ⟨fun _ => hS, H⟩
    · have := ready_mono hj hji
      rw [H.1] at this
      cases this
  | succ fuel ih =>
    intro listed a w hfree hr hu hy hS H
    refine ⟨fun h => (by rw [h] at hr; cases hr), fun j hj => ?_⟩
    by_cases hji : j = i
    · subst hji; exact hy.wpOp hi hS ⟨fun _ => hS, H⟩
    · have hun := (mem_ready.1 hr).1
      have h1 := H.2 j (ready_mono hj hji)
      obtain ⟨hjun, oj, hoj, hall⟩ := mem_ready.1 hj
      have hnot : ∀ e ∈ oj.after, Region.binds md e = true → e.on ≠ i := fun e he hb heq => by
        have h1 := hall e he hb
        rw [heq] at h1
        rcases Nat.lt_or_ge i listed.size with h' | h'
        · simp [h'] at hun h1; rw [hun] at h1; cases h1
        · simp [Array.getElem?_eq_none h'] at h1
      have hjD := dep_notready hd hu hun hj
      have h2 := wpOp_putIf hoj (hfree j oj hoj hji hjun hnot) (fun cs b => hsel i oi cs b hi) (fun cs b => hsel j oj cs b hoj) hQ hy h1
      have hfree' : ∀ k ok, ops[k]? = some ok → k ≠ i → (listed.setIfInBounds j true).getD k true = false →
          (∀ e ∈ ok.after, Region.binds md e = true → e.on ≠ i) → oi.apart ops ok = true := fun k ok hk hki hun hno => by
        refine hfree k ok hk hki ?_ hno
        by_cases hjk : j = k
        · subst hjk; exact hjun
        · rw [getD_set_ne true hjk] at hun; exact hun
      have hsu : (listed.setIfInBounds j true).getD s true = false := by
        have := List.all_eq_true.1 (un_set hu hjD) s hsD
        simpa using this
      have hsu2 : ((listed.setIfInBounds i true).setIfInBounds j true).getD s true = false := by
        have := List.all_eq_true.1 (un_set (un_set hu hiD) hjD) s hsD
        simpa using this
      refine wpOp_mono (fun a' w' h3 => ⟨fun _ => h3.2.1 hsu2, ih (listed.setIfInBounds j true) a' w' hfree' (ready_mono hr (Ne.symm hji)) (un_set hu hjD) h3.1 (h3.2.1 hsu2) ?_⟩) h2
      rw [Array.setIfInBounds_comm _ _ hji]
      exact h3.2.2
theorem wpAnyU_take {i : Nat} {oi : Oper} {v : Value} {fuel : Nat} {listed : Array Bool} {a : Act} {w : World} (D : List Nat) (hsD : D.contains s = true) (hiD : D.contains i = false) (hd : depB md ops i D = true) (hu : unB listed D = true)
    (hi : ops[i]? = some oi)
    (hs : Region.noSelect ops = true) (hf : Region.free md ops listed i = true) (hr : (Region.ready md ops listed).contains i = true)
    (hQ : ∀ c a w, Q (.panic c) (a.put oi.dst v) w → Q (.panic c) a w) (hy : YieldsIf P ops S oi v a) (hS : S w)
    (h : wpAnyU P md ops Q S s fuel (listed.setIfInBounds i true) (a.put oi.dst v) w) : wpAnyU P md ops Q S s (fuel + 1) listed a w :=
  wpAnyU_first D (by simpa using hsD) (by simpa using hiD) hd hi (Region.noSelect_spec hs) hQ fuel listed a w (Region.free_spec hi hf) (by simpa using hr) hu hy hS h
theorem wpAnyU_firstW {i : Nat} {oi : Oper} {v : Value} (his : i ≠ s) (hi : ops[i]? = some oi)
    (hsel : ∀ (j : Nat) (o : Oper) cs b, ops[j]? = some o → o.op ≠ .select cs b)
    (hQ : ∀ c a w, Q (.panic c) (a.put oi.dst v) w → Q (.panic c) a w) :
    ∀ (fuel : Nat) (listed : Array Bool) (a : Act) (w : World),
      (∀ j oj, ops[j]? = some oj → j ≠ i → listed.getD j true = false → (∀ e ∈ oj.after, Region.binds md e = true → e.on ≠ i) → oi.apart ops oj = true) →
      i ∈ Region.ready md ops listed → YieldsIf P ops (fun _ => True) oi v a → (listed.getD s true = false → S w) →
      wpAnyU P md ops Q S s fuel (listed.setIfInBounds i true) (a.put oi.dst v) w → wpAnyU P md ops Q S s (fuel + 1) listed a w := by
  intro fuel
  induction fuel with
  | zero =>
    intro listed a w _ hr hy hS H
    refine ⟨fun h => (by rw [h] at hr; cases hr), fun j hj => ?_⟩
    by_cases hji : j = i
    · subst hji; exact hy.wpOp hi trivial ⟨fun e => hS (by rwa [getD_set_ne true his] at e), H⟩
    · have := ready_mono hj hji
      rw [H.1] at this
      cases this
  | succ fuel ih =>
    intro listed a w hfree hr hy hS H
    refine ⟨fun h => (by rw [h] at hr; cases hr), fun j hj => ?_⟩
    by_cases hji : j = i
    · subst hji; exact hy.wpOp hi trivial ⟨fun e => hS (by rwa [getD_set_ne true his] at e), H⟩
    · have hun := (mem_ready.1 hr).1
      have h1 := H.2 j (ready_mono hj hji)
      obtain ⟨hjun, oj, hoj, hall⟩ := mem_ready.1 hj
      have hnot : ∀ e ∈ oj.after, Region.binds md e = true → e.on ≠ i := fun e he hb heq => by
        have h1 := hall e he hb
        rw [heq] at h1
        rcases Nat.lt_or_ge i listed.size with h' | h'
        · simp [h'] at hun h1; rw [hun] at h1; cases h1
        · simp [Array.getElem?_eq_none h'] at h1
      have h2 := wpOp_putIf hoj (hfree j oj hoj hji hjun hnot) (fun cs b => hsel i oi cs b hi) (fun cs b => hsel j oj cs b hoj) hQ hy h1
      have hfree' : ∀ k ok, ops[k]? = some ok → k ≠ i → (listed.setIfInBounds j true).getD k true = false →
          (∀ e ∈ ok.after, Region.binds md e = true → e.on ≠ i) → oi.apart ops ok = true := fun k ok hk hki hun hno => by
        refine hfree k ok hk hki ?_ hno
        by_cases hjk : j = k
        · subst hjk; exact hjun
        · rw [getD_set_ne true hjk] at hun; exact hun
      have hcomm : (listed.setIfInBounds i true).setIfInBounds j true = (listed.setIfInBounds j true).setIfInBounds i true := Array.setIfInBounds_comm _ _ (Ne.symm hji)
      have hsS : (listed.setIfInBounds j true).getD s true = false → ((listed.setIfInBounds i true).setIfInBounds j true).getD s true = false := fun e => by
        rw [hcomm, getD_set_ne true his]; exact e
      refine wpOp_mono (fun a' w' h3 => ⟨fun e => h3.2.1 (hsS e), ih (listed.setIfInBounds j true) a' w' hfree' (ready_mono hr (Ne.symm hji)) h3.1 (fun e => h3.2.1 (hsS e)) ?_⟩) h2
      rw [Array.setIfInBounds_comm _ _ hji]
      exact h3.2.2
/-- What yields in whatever world is taken first, wherever it stands. -/
theorem wpAnyU_takeW {i : Nat} {oi : Oper} {v : Value} {fuel : Nat} {listed : Array Bool} {a : Act} {w : World} (his : (i == s) = false)
    (hi : ops[i]? = some oi)
    (hs : Region.noSelect ops = true) (hf : Region.free md ops listed i = true) (hr : (Region.ready md ops listed).contains i = true)
    (hQ : ∀ c a w, Q (.panic c) (a.put oi.dst v) w → Q (.panic c) a w) (hy : YieldsIf P ops (fun _ => True) oi v a) (hS : S w)
    (h : wpAnyU P md ops Q S s fuel (listed.setIfInBounds i true) (a.put oi.dst v) w) : wpAnyU P md ops Q S s (fuel + 1) listed a w :=
  wpAnyU_firstW (by simpa using his) hi (Region.noSelect_spec hs) hQ fuel listed a w (Region.free_spec hi hf) (by simpa using hr) hy (fun _ => hS) h
def AllReadyU (P : Program) (md : Region.Mode) (ops : Array Oper) (Q : Exit → Act → World → Prop) (S : World → Prop) (s : Nat) (fuel : Nat) (listed : Array Bool) (a : Act) (w : World) (rs : List Nat) : Prop :=
  ∀ i ∈ rs, wpOp P ops Q i (fun a' w' => ((listed.setIfInBounds i true).getD s true = false → S w') ∧ wpAnyU P md ops Q S s fuel (listed.setIfInBounds i true) a' w') a w
theorem AllReadyU.nil {fuel : Nat} {listed : Array Bool} {a : Act} {w : World} : AllReadyU P md ops Q S s fuel listed a w [] := fun _ h => by cases h
/-- Ahead of number s: S is shown, and handed on. -/
theorem AllReadyU.cons {fuel : Nat} {listed : Array Bool} {a : Act} {w : World} {i : Nat} {o : Oper} {rs : List Nat} (ho : ops[i]? = some o)
    (h : ∀ K' : Act → World → Prop, Shut (∀ a w, S w → (S w → wpAnyU P md ops Q S s fuel (listed.setIfInBounds i true) a w) → K' a w) → if Region.wanted o (yielded ops a.tmps) = true then Oper.wp P o a w K' Q else K' (a.put o.dst undef) w)
    (hs : AllReadyU P md ops Q S s fuel listed a w rs) : AllReadyU P md ops Q S s fuel listed a w (i :: rs) := fun j hj => by
  rcases List.mem_cons.1 hj with rfl | hj
  · exact wpOp_step ho (fun K' hK => h K' (fun a w hS hW => hK a w ⟨fun _ => hS, hW hS⟩))
  · exact hs j hj
/-- At number s itself: nothing is shown, and nothing more is asked behind it. -/
theorem AllReadyU.stop {fuel : Nat} {listed : Array Bool} {a : Act} {w : World} {o : Oper} {rs : List Nat} (ho : ops[s]? = some o) (hl : (listed.setIfInBounds s true).getD s true = true)
    (h : ∀ K' : Act → World → Prop, Shut (∀ a w, True → (True → wpAnyH P md ops Q (fun _ => True) fuel (listed.setIfInBounds s true) a w) → K' a w) → if Region.wanted o (yielded ops a.tmps) = true then Oper.wp P o a w K' Q else K' (a.put o.dst undef) w)
    (hs : AllReadyU P md ops Q S s fuel listed a w rs) : AllReadyU P md ops Q S s fuel listed a w (s :: rs) := fun j hj => by
  rcases List.mem_cons.1 hj with rfl | hj
  · exact wpOp_step ho (fun K' hK => h K' (fun a w _ hW => hK a w ⟨(fun e => by rw [hl] at e; cases e), wpAnyU_after _ _ _ _ hl (hW trivial)⟩))
  · exact hs j hj
theorem wpAnyU_ready {rs : List Nat} {fuel : Nat} {listed : Array Bool} {a : Act} {w : World} (hr : Region.ready md ops listed = rs) (hne : rs ≠ [])
    (h : AllReadyU P md ops Q S s fuel listed a w rs) : wpAnyU P md ops Q S s (fuel + 1) listed a w :=
  ⟨fun h0 => absurd (hr ▸ h0) hne, hr ▸ h⟩
theorem wp_region_U {id : Nat} {a : Act} {w : World} (s : Nat) (hm : P.follows .mixedOrders = true) (hS : S w.drew)
    (h : S w.drew → wpAnyU P .any ops Q S s ops.size (Array.replicate ops.size false) a w.drew) : (Code.region id ops true).wp P Q a w :=
  wp_region_any hm (wpAny_of_U _ _ _ _ (h hS))
end

/-! Whole structs loaded and stored inside such a region. -/
section
variable {P : Program} {ops : Array Oper} {o : Oper} {a : Act} {w : World} {K : Act → World → Prop} {Q : Exit → Act → World → Prop} {E : Prop}
theorem step_loadB (hgd : o.guard = none) (ty : TypeId) (x : Operand) (ho : o.op = .load ty x)
    (g : Nat) (hx : a.eval x = .pointer (some ⟨g, 0, none⟩)) (t : TypeId) (cs : Array Value) (hg : Blk w g t cs) (fs : Array Field)
    (hu : P.underlying ty = some (.struct fs)) (hi : (P.info? ty).map (·.size) = some cs.size)
    (h : K (a.put o.dst (.agg cs)) w) : if Region.wanted o (yielded ops a.tmps) = true then Oper.wp P o a w K Q else E := by
  rw [if_pos (by simp [Region.wanted, hgd])]
  exact wp_load_row ty x ho g hx t cs (0, 0) _ hg hu rfl hi h
theorem step_storeB (hgd : o.guard = none) (ty : TypeId) (x y : Operand) (ho : o.op = .store ty x y)
    (hd : o.dst = none) (g : Nat) (cells : Array Value) (hx : a.eval x = .pointer (some ⟨g, 0, none⟩)) (hy : a.eval y = .agg cells)
    (t : TypeId) (old : Array Value) (hg : Blk w g t old) (hi : (P.info? ty).map (·.size) = some cells.size)
    (hold : old.size = cells.size) (h1 : cells.all (·.oneCell') = true)
    (h : ∀ w', Blk w' g t cells → ExtB g w w' → K a w') : if Region.wanted o (yielded ops a.tmps) = true then Oper.wp P o a w K Q else E := by
  rw [if_pos (by simp [Region.wanted, hgd])]
  refine wp_store_row ty x y ho g cells hx hy t old hg hi hold h1 ?_
  rw [hd]
  exact h _ (setRow_heap w g old cells t (0, 0) hg) ⟨rfl, rfl, rfl, by simp, fun k _ hne => setRow_other w g k cells (fun e => hne (by rw [e]))⟩
/-- A whole struct, loaded ahead of all else. -/
theorem yield_loadB {S : World → Prop} (hgd : o.guard = none) (ty : TypeId) (x : Operand) (ho : o.op = .load ty x)
    (g : Nat) (hx : a.eval x = .pointer (some ⟨g, 0, none⟩)) (t : TypeId) (cs : Array Value) (hg : ∀ w, S w → Blk w g t cs) (fs : Array Field)
    (hu : P.underlying ty = some (.struct fs)) (hi : (P.info? ty).map (·.size) = some cs.size) : YieldsIf P ops S o (.agg cs) a := by
  refine .inl ⟨by simp [Region.wanted, hgd], fun w hS => ?_⟩
  unfold execOp
  simp only [ho, hx, Instr.loadAt, Instr.sureAddr, Sem.run_bind, Sem.run_pure, Result.andThen_ok, run_loadVar_row w g t ty cs (0, 0) _ (hg w hS) hu rfl hi]
end
end Go.Proofs.YtocniclkooiggaaGreatDoor

namespace Go.Proofs.YtocniclkooiggaaGreatDoor
open Go.RowKit

theorem ret_n {a b : Int} (h : a = b) : Ending.returned (.int .i64 a) = .returned (.int .i64 b) := by rw [h]
theorem ret_t {a b : Value} (h : a = b) : Ending.returned a = .returned b := by rw [h]
set_option maxHeartbeats 1000000 in
theorem clock_limited (n l : Int) (w : World) : Calls Tryz.prog 53 #[.int .i64 n, .int .i64 l] w fun e w' => e = .returned (.int .i64 (max 0 (min n l))) ∧ w' = w := by
  go_enter Tryz.func53, Tryz.ntmps53
  go_wp2_with fail
  all_goals
    go_ret
    exact ⟨ret_n (by omega), rfl⟩
set_option maxHeartbeats 1000000 in
theorem age_clip (n : Int) (w : World) : Calls Tryz.prog 32 #[.int .i64 n] w fun e w' => e = .returned (.int .i64 (clT n)) ∧ w' = w := by
  go_enter Tryz.func32, Tryz.ntmps32
  go_wp2_with fail
  all_goals
    go_ret
    exact ⟨ret_n (by unfold clT; omega), rfl⟩
set_option maxHeartbeats 1000000 in
theorem clock_up (a b : Int) (w : World) (h0 : 0 ≤ a) (h1 : a ≤ 2305843009213693952) (h2 : 1 ≤ b) (h3 : b ≤ 1099511627776) : Calls Tryz.prog 54 #[.int .i64 a, .int .i64 b] w fun e w' => e = .returned (.int .i64 ((a + b - 1) / b)) ∧ w' = w := by
  have q1 : (a + b - 1).tdiv b = (a + b - 1) / b := Int.tdiv_eq_ediv_of_nonneg (by omega)
  have q2 := ediv_bd (a := a + b - 1) (b := b) (by omega) h2
  obtain ⟨q3, q4⟩ := q2
  have z : (b == 0) = false := by rw [beq_eq_false_iff_ne]; omega
  have z2 : b ≠ 0 := by omega
  generalize (a + b - 1) / b = Q at *
  go_enter Tryz.func54, Tryz.ntmps54
  go_wp2_with fail
  go_ret
  exact ⟨rfl, rfl⟩
set_option maxHeartbeats 4000000 in
theorem clock_Elapsed (d p : Int) (w : World) : Calls Tryz.prog 33 #[.int .i64 d, .int .i64 p] w fun e w' => e = .returned (.tuple #[.int .i64 (elLo (clT d) (clP p)), .int .i64 (elHi (clT d) (clP p))]) ∧ w' = w := by
  have hL := clock_limited d 1099511627776
  have hM := clock_limited p 100000
  have HL := Lib.hid (show ∀ w, Calls Tryz.prog 53 #[.int .i64 d, .int .i64 1099511627776] w fun e w' => e = .returned (.int .i64 (clT d)) ∧ w' = w from hL)
  have HM := Lib.hid (show ∀ w, Calls Tryz.prog 53 #[.int .i64 p, .int .i64 100000] w fun e w' => e = .returned (.int .i64 (clP p)) ∧ w' = w from hM)
  clear hL hM
  obtain ⟨t0, t1⟩ := clT_bd d
  obtain ⟨p0, p1⟩ := clP_bd p
  generalize clT d = D at *
  generalize clP p = R at *
  have hu : elHi D R = ((D + 1) * 1000000 + (1000000 - R) - 1) / (1000000 - R) - 1 := rfl
  have hb0 := elHi_pos t0 p0 p1
  have hb1 := elHi_le t0 p0 p1
  have HU := Lib.hid (clock_up ((D + 1) * 1000000) (1000000 - R))
  have Hu := Lib.hid (show ((D + 1) * 1000000 + (1000000 - R) - 1) / (1000000 - R) = elHi D R + 1 by omega)
  clear hu
  generalize elHi D R = EH at *
  by_cases hd : 0 < D
  · have Hl := Lib.hid (show elLo D R = (D - 1) * 1000000 / (1000000 + R) + 1 from if_pos hd)
    have q1 : ((D - 1) * 1000000).tdiv (1000000 + R) = (D - 1) * 1000000 / (1000000 + R) := Int.tdiv_eq_ediv_of_nonneg (by omega)
    obtain ⟨q3, q4⟩ := ediv_bd (a := (D - 1) * 1000000) (b := 1000000 + R) (by omega) (by omega)
    have z2 : 1000000 + R ≠ 0 := by omega
    have z : (1000000 + R == 0) = false := by rw [beq_eq_false_iff_ne]; omega
    generalize hQ : (D - 1) * 1000000 / (1000000 + R) = Q at *
    generalize elLo D R = EL at *
    go_enter Tryz.func33, Tryz.ntmps33
    go_wp2_with fail
    refine (HL.out _).mono ?_; rintro e w1 ⟨rfl, rfl⟩
    go_wp2_with fail
    refine (HM.out _).mono ?_; rintro e w1 ⟨rfl, rfl⟩
    go_wp2_with fail
    refine (HU.out _ (by omega) (by omega) (by omega) (by omega)).mono ?_; rintro e w1 ⟨rfl, rfl⟩
    rw [Hu.out]
    go_wp2_with fail
    go_ret2
    exact ⟨ret_t (by rw [Hl.out]; (try rw [q1]); first | rfl | (congr 4; omega)), rfl⟩
  · have Hl := Lib.hid (show elLo D R = 0 from if_neg hd)
    generalize elLo D R = EL at *
    go_enter Tryz.func33, Tryz.ntmps33
    go_wp2_with fail
    refine (HL.out _).mono ?_; rintro e w1 ⟨rfl, rfl⟩
    go_wp2_with fail
    refine (HM.out _).mono ?_; rintro e w1 ⟨rfl, rfl⟩
    go_wp2_with fail
    refine (HU.out _ (by omega) (by omega) (by omega) (by omega)).mono ?_; rintro e w1 ⟨rfl, rfl⟩
    rw [Hu.out]
    go_wp2_with fail
    go_ret2
    exact ⟨ret_t (by rw [Hl.out]; first | rfl | (congr 4; omega)), rfl⟩

def atV : Option (Int × Int) → Value
  | none => .tuple #[.int .i64 0, .int .i64 0, .iface 77 (.int .i64 7)]
  | some p => .tuple #[.int .i64 p.1, .int .i64 p.2, .nilIface]
set_option maxHeartbeats 4000000 in
set_option maxRecDepth 100000 in
theorem age_At (se re ag now ppm : Int) (w : World) : Calls Tryz.prog 17 #[.agg #[.int .i64 se, .int .i64 re, .int .i64 ag], .int .i64 now, .int .i64 ppm] w fun e w' => e = .returned (atV (atO ⟨se, re, ag⟩ now ppm)) ∧ Ext w w' := by
  have HS := Lib.hid (age_clip se)
  have HR := Lib.hid (age_clip re)
  have HN := Lib.hid (age_clip now)
  have HO := Lib.hid (show atO ⟨se, re, ag⟩ now ppm = if clT re < clT se ∨ clT now < clT re then none
    else some (elLo (clT now - clT re) (clP ppm), elHi (clT now - clT se) (clP ppm) + exA ag) from rfl)
  have HE := Lib.hid (fun (d : Int) (w : World) (h : clT d = d) => show Calls Tryz.prog 33 #[.int .i64 d, .int .i64 ppm] w fun e w' => e = .returned (.tuple #[.int .i64 (elLo d (clP ppm)), .int .i64 (elHi d (clP ppm))]) ∧ w' = w by
    have := clock_Elapsed d ppm w
    rw [h] at this; exact this)
  obtain ⟨s0, s1⟩ := clT_bd se
  obtain ⟨r0, r1⟩ := clT_bd re
  obtain ⟨n0, n1⟩ := clT_bd now
  obtain ⟨p0, p1⟩ := clP_bd ppm
  have HX := Lib.hid (⟨exA_bd ag, rfl⟩ : (0 ≤ exA ag ∧ exA ag ≤ 2147483648000) ∧ exA ag = if 0 ≤ ag then (min ag 2147483647 + 1) * 1000 else 0)
  generalize atO ⟨se, re, ag⟩ now ppm = O at *
  generalize clT se = S at *
  generalize clT re = R at *
  generalize clT now = N at *
  generalize clP ppm = P at *
  generalize exA ag = X at *
  have HB := Lib.hid (Blk.new w 36 #[.int .i64 se, .int .i64 re, .int .i64 ag])
  have hE := (Ext.refl w).alloc (.cells #[.int .i64 se, .int .i64 re, .int .i64 ag] 36)
  go_enter Tryz.func17, Tryz.ntmps17
  go_wp2_with fail
  generalize w.alloc (.cells #[.int .i64 se, .int .i64 re, .int .i64 ag] 36) = W0 at *
  generalize w.heap.size = b at *
  have HW := Lib.hid hE; clear hE
  refine wp_region_held_drew (S := (fun w' => w'.cell? ⟨b, 0, none⟩ = some (.int .i64 se) ∧ w'.cell? ⟨b, 1, none⟩ = some (.int .i64 re))) (by kernel_rfl) ?_ (fun hHeld => ?_)
  · (try dsimp only); exact ⟨HB.out.cell 0, HB.out.cell 1⟩
  refine wpAnyH_take (i := 0) (oi := { dst := some 11, op := _, type := _, pos := _, after := _, guard := _ }) (v := ?_) rfl (by kernel_rfl) (by kernel_rfl) (by kernel_rfl) (fun _ _ _ h => h) (Or.inl ⟨by rfl, ?_⟩) (by assumption) ?_
  rotate_left
  · (intro w hSw; (try dsimp only at hSw); go_simp; (try with_reducible rfl))
  (try simp only [Act.put, List.setIfInBounds_toArray, List.set_cons_zero, List.set_cons_succ])
  refine wpAnyH_take (i := 1) (oi := { dst := some 12, op := _, type := _, pos := _, after := _, guard := _ }) (v := ?_) rfl (by kernel_rfl) (by kernel_rfl) (by kernel_rfl) (fun _ _ _ h => h) (Or.inl ⟨by rfl, ?_⟩) (by assumption) ?_
  rotate_left
  · (intro w hSw; (try dsimp only at hSw); go_simp; (try with_reducible rfl))
  (try simp only [Act.put, List.setIfInBounds_toArray, List.set_cons_zero, List.set_cons_succ])
  refine wpAnyH_take (i := 3) (oi := { dst := some 14, op := _, type := _, pos := _, after := _, guard := _ }) (v := ?_) rfl (by kernel_rfl) (by kernel_rfl) (by kernel_rfl) (fun _ _ _ h => h) (Or.inl ⟨by rfl, ?_⟩) (by assumption) ?_
  rotate_left
  · (intro w hSw; (try dsimp only at hSw); go_simp; (try with_reducible rfl))
  (try simp only [Act.put, List.setIfInBounds_toArray, List.set_cons_zero, List.set_cons_succ])
  refine wpAnyH_take (i := 4) (oi := { dst := some 15, op := _, type := _, pos := _, after := _, guard := _ }) (v := ?_) rfl (by kernel_rfl) (by kernel_rfl) (by kernel_rfl) (fun _ _ _ h => h) (Or.inl ⟨by rfl, ?_⟩) (by assumption) ?_
  rotate_left
  · (intro w hSw; (try dsimp only at hSw); go_simp; (try with_reducible rfl))
  (try simp only [Act.put, List.setIfInBounds_toArray, List.set_cons_zero, List.set_cons_succ])
  refine wpAnyH_ready (rs := [2]) (by kernel_rfl) (by simp) ?_
  refine AllReadyH.cons (o := { dst := some 13, op := _, type := _, pos := _, after := _, guard := _ }) rfl (fun K hK => ?_) AllReadyH.nil
  go_simp
  refine (HS.out _).mono ?_; rintro e w1 ⟨rfl, rfl⟩
  try go_wp2_with fail
  refine hK.out _ _ ?_ (fun hHeld => ?_)
  · (try dsimp only); exact ⟨HB.out.cell 0, HB.out.cell 1⟩
  clear hK K
  (try simp only [Act.put, List.setIfInBounds_toArray, List.set_cons_zero, List.set_cons_succ])
  refine wpAnyH_ready (rs := [5]) (by kernel_rfl) (by simp) ?_
  refine AllReadyH.cons (o := { dst := some 16, op := _, type := _, pos := _, after := _, guard := _ }) rfl (fun K hK => ?_) AllReadyH.nil
  go_simp
  refine (HR.out _).mono ?_; rintro e w1 ⟨rfl, rfl⟩
  try go_wp2_with fail
  refine hK.out _ _ ?_ (fun hHeld => ?_)
  · (try dsimp only); exact ⟨HB.out.cell 0, HB.out.cell 1⟩
  clear hK K
  (try simp only [Act.put, List.setIfInBounds_toArray, List.set_cons_zero, List.set_cons_succ])
  refine wpAnyH_take (i := 6) (oi := { dst := some 9, op := _, type := _, pos := _, after := _, guard := _ }) (v := ?_) rfl (by kernel_rfl) (by kernel_rfl) (by kernel_rfl) (fun _ _ _ h => h) (Or.inl ⟨by rfl, ?_⟩) (by assumption) ?_
  rotate_left
  · (intro w hSw; (try dsimp only at hSw); go_simp; (try with_reducible rfl))
  (try simp only [Act.put, List.setIfInBounds_toArray, List.set_cons_zero, List.set_cons_succ])
  refine wpAnyH_take (i := 7) (oi := { dst := some 10, op := _, type := _, pos := _, after := _, guard := _ }) (v := ?_) rfl (by kernel_rfl) (by kernel_rfl) (by kernel_rfl) (fun _ _ _ h => h) (Or.inl ⟨by rfl, ?_⟩) (by assumption) ?_
  rotate_left
  · (intro w hSw; (try dsimp only at hSw); go_simp; (try with_reducible rfl))
  (try simp only [Act.put, List.setIfInBounds_toArray, List.set_cons_zero, List.set_cons_succ])
  refine wpAnyH_done (by kernel_rfl) ?_ _
  go_wp2_with fail
  refine (HN.out _).mono ?_; rintro e w1 ⟨rfl, rfl⟩
  have c2 := HB.out.cell 2
  by_cases hc : R < S ∨ N < R
  · have HL := Lib.hid (show O = none by rw [HO.out, if_pos hc])
    clear HO
    rcases hc with hc | hc
    · go_wp2_with fail
      go_ret3
      exact ⟨ret_t (by rw [HL.out]; rfl), HW.out.drew⟩
    · by_cases hc2 : R < S
      all_goals
        go_wp2_with fail
        go_ret3
        exact ⟨ret_t (by rw [HL.out]; rfl), HW.out.drew⟩
  · have HL := Lib.hid (show O = some (elLo (N - R) P, elHi (N - S) P + X) by rw [HO.out, if_neg hc])
    have hc1 : ¬ R < S := fun h => hc (.inl h)
    have hc2 : ¬ N < R := fun h => hc (.inr h)
    clear HO hc
    have hd1 : clT (N - R) = N - R := clT_id (by omega) (by omega)
    have hd2 : clT (N - S) = N - S := clT_id (by omega) (by omega)
    have HD := Lib.hid (⟨hd1, hd2⟩ : _ ∧ _)
    clear hd1 hd2
    have k1 := elHi_pos (d := N - S) (p := P) (by omega) p0 p1
    have k2 := elHi_le (d := N - S) (p := P) (by omega) p0 p1
    have HE1 := Lib.hid (HE.out (N - R))
    have HE2 := Lib.hid (HE.out (N - S))
    clear HE
    generalize elLo (N - R) P = EL at *
    generalize elHi (N - S) P = EH at *
    go_wp2_with fail
    refine (HE1.out _ HD.out.1).mono ?_; rintro e w1 ⟨rfl, rfl⟩
    go_wp2_with fail
    refine (HE2.out _ HD.out.2).mono ?_; rintro e w1 ⟨rfl, rfl⟩
    by_cases ha : 0 ≤ ag
    · by_cases hg : 2147483647 ≤ ag
      · have HX2 := Lib.hid (show X = 2147483648000 by rw [HX.out.2, if_pos ha]; omega)
        go_wp2_with fail
        all_goals
          go_ret3
          exact ⟨ret_t (by rw [HL.out, HX2.out]; first | rfl | (refine congrArg (fun x => Value.tuple #[.int .i64 EL, .int .i64 x, .nilIface]) ?_; omega)), HW.out.drew⟩
      · have HX2 := Lib.hid (show X = (ag + 1) * 1000 by rw [HX.out.2, if_pos ha]; omega)
        go_wp2_with fail
        all_goals
          go_ret3
          exact ⟨ret_t (by rw [HL.out, HX2.out]; first | rfl | (refine congrArg (fun x => Value.tuple #[.int .i64 EL, .int .i64 x, .nilIface]) ?_; omega)), HW.out.drew⟩
    · have HX2 := Lib.hid (show X = 0 by rw [HX.out.2, if_neg ha])
      go_wp2_with fail
      go_ret3
      exact ⟨ret_t (by rw [HL.out, HX2.out]; first | rfl | (unfold atV; simp)), HW.out.drew⟩
end Go.Proofs.YtocniclkooiggaaGreatDoor

namespace Go.Proofs.YtocniclkooiggaaGreatDoor
open Go.RowKit

/-- One of the first three verdicts, or 0. -/
def fvS (hi life wh ma mf ms : Int) (mr sa : Bool) : Int :=
  if hi < life ∧ (ma < 0 ∨ hi < 1000 * ma) ∧ (mf < 0 ∨ hi + 1000 * mf < life) then 1
  else if hi < life + wh ∧ ma < 0 ∧ mf < 0 then 2
  else if 0 ≤ ms ∧ mf < 0 ∧ mr = false ∧ sa = false ∧ hi < life + 1000 * ms ∧ (ma < 0 ∨ hi < 1000 * ma + 1000 * ms) then 3 else 0
theorem vd_fv (us : Bool) (hi life wh ma mf ms : Int) (mr sa hv : Bool) : vdS us hi life wh ma mf ms mr sa hv = if us = true ∧ fvS hi life wh ma mf ms mr sa ≠ 0 then fvS hi life wh ma mf ms mr sa else if hv then 4 else 5 := by
  cases us
  · rw [vdS_unusable]
    rw [if_neg (c := false = true ∧ _) (fun h => Bool.noConfusion h.1)]
  · unfold vdS fvS
    simp only [true_and]
    split
    · rw [if_pos (show (1 : Int) ≠ 0 by decide)]
    · split
      · rw [if_pos (show (2 : Int) ≠ 0 by decide)]
      · split
        · rw [if_pos (show (3 : Int) ≠ 0 by decide)]
        · rw [if_neg (show ¬ (0 : Int) ≠ 0 by decide)]
section
variable {hi life wh ma mf ms : Int} {mr sa : Bool}
theorem fv1 (h : hi < life ∧ (ma < 0 ∨ hi < 1000 * ma) ∧ (mf < 0 ∨ hi + 1000 * mf < life)) : fvS hi life wh ma mf ms mr sa = 1 := if_pos h
theorem fv2 (h : ¬ (hi < life ∧ (ma < 0 ∨ hi < 1000 * ma) ∧ (mf < 0 ∨ hi + 1000 * mf < life))) (h2 : hi < life + wh ∧ ma < 0 ∧ mf < 0) : fvS hi life wh ma mf ms mr sa = 2 := by
  unfold fvS; rw [if_neg h, if_pos h2]
theorem fv3 (h : ¬ (hi < life ∧ (ma < 0 ∨ hi < 1000 * ma) ∧ (mf < 0 ∨ hi + 1000 * mf < life))) (h2 : ¬ (hi < life + wh ∧ ma < 0 ∧ mf < 0)) (h3 : 0 ≤ ms ∧ mf < 0) (h4 : mr = false) (h5 : sa = false) (h6 : hi < life + 1000 * ms ∧ (ma < 0 ∨ hi < 1000 * ma + 1000 * ms)) : fvS hi life wh ma mf ms mr sa = 3 := by
  unfold fvS; rw [if_neg h, if_neg h2, if_pos ⟨h3.1, h3.2, h4, h5, h6⟩]
theorem fv0 (h : ¬ (hi < life ∧ (ma < 0 ∨ hi < 1000 * ma) ∧ (mf < 0 ∨ hi + 1000 * mf < life))) (h2 : ¬ (hi < life + wh ∧ ma < 0 ∧ mf < 0)) (h3 : ¬ (0 ≤ ms ∧ mf < 0 ∧ hi < life + 1000 * ms ∧ (ma < 0 ∨ hi < 1000 * ma + 1000 * ms)) ∨ mr = true ∨ sa = true) : fvS hi life wh ma mf ms mr sa = 0 := by
  unfold fvS; rw [if_neg h, if_neg h2, if_neg]
  rintro ⟨a, b, c, d, e⟩
  rcases h3 with h3 | h3 | h3
  · exact h3 ⟨a, b, e⟩
  · rw [c] at h3; cases h3
  · rw [d] at h3; cases h3
end
/-- A time of a directive in ticks. -/
def tkS (n : Int) : Int := IntKind.i64.wrap (min n 2147483647 * 1000)
theorem tk_eq (n : Int) : (decide (0 ≤ n) = true ∧ 0 ≤ nmT n ∧ nmT n ≤ 2147483647 ∧ tkS n = 1000 * nmT n) ∨ (decide (0 ≤ n) = false ∧ nmT n < 0) := by
  by_cases h : 0 ≤ n
  · refine .inl ⟨decide_eq_true h, by unfold nmT; omega, by unfold nmT; omega, ?_⟩
    unfold tkS
    rw [IntWalk.i64_in _ (by omega)]
    unfold nmT; omega
  · exact .inr ⟨decide_eq_false h, by unfold nmT; omega⟩
set_option maxHeartbeats 1000000 in
theorem policy_ticks (n : Int) (w : World) : Calls Tryz.prog 34 #[.int .i64 n] w fun e w' => e = .returned (.tuple #[.int .i64 (tkS n), .bool (decide (0 ≤ n))]) ∧ w' = w := by
  go_enter Tryz.func34, Tryz.ntmps34
  go_wp2_with fail
  go_ret2
  exact ⟨ret_t (show Value.tuple #[.int .i64 (wrap64 (min n 2147483647 * 1000)), .bool (decide (0 ≤ n))] = _ by rw [← IntWalk.i64_left]; rfl), rfl⟩
theorem dp_fld1 (D : D) (w : World) : (Instr.field 40 (.agg (dArr D)) 1).run Tryz.prog w = .ok (.bool D.b1) w := by kernel_rfl

set_option maxHeartbeats 16000000 in
set_option maxRecDepth 100000 in
theorem policy_fresh (st : Int) (A : Option Addr) (n c : Nat) (fs : List Fd) (se re ag : Int) (hv : Bool) (d q : D) (hi : Int) (h0 : 0 ≤ hi) (h1 : hi ≤ 6545530159104) (w : World) (hf : RdF w A n fs) (hn : n ≤ 1073741824) (hsz : Bsz 1048576 fs) (hg : GlH w) (hT : sumF fs + 2 * n ≤ 70368744177664) (hgl : Gl w) :
    Calls Tryz.prog 18 #[.agg #[.int .i64 st, .slice A n c, .int .i64 se, .int .i64 re, .int .i64 ag, .bool hv], .agg (dArr d), .agg (dArr q), .int .i64 hi] w fun e w' => e = .returned (.int .i64 (fvS hi (ofS st fs).1 (alwS fs).1 (nmT q.n0) (nmT q.n5) (nmT q.n4) d.b4 (decide (0 ≤ d.n1)))) ∧ Ext w w' := by
  have HO := Lib.hid (fun w' (h : Ext w w') => life_Of st A n c fs w' (hf.ext h) hn hsz (hg.ext h) hT (hgl.ext h))
  have HA := Lib.hid (fun w' (h : Ext w w') => life_Allowance A n c fs w' (hf.ext h) hn hsz (hgl.ext h))
  have HT0 := Lib.hid (policy_ticks q.n0)
  have HT5 := Lib.hid (policy_ticks q.n5)
  have HT4 := Lib.hid (policy_ticks q.n4)
  have K0 := tk_eq q.n0
  have K5 := tk_eq q.n5
  have K4 := tk_eq q.n4
  obtain ⟨l0, l1, _⟩ := ofS_bd st fs
  obtain ⟨a0, a1, _, _⟩ := alwS_bd fs
  have HQ := Lib.hid (show ∀ k : Int, fvS hi (ofS st fs).1 (alwS fs).1 (nmT q.n0) (nmT q.n5) (nmT q.n4) d.b4 (decide (0 ≤ d.n1)) = k → Ending.returned (.int .i64 k) = Ending.returned (.int .i64 (fvS hi (ofS st fs).1 (alwS fs).1 (nmT q.n0) (nmT q.n5) (nmT q.n4) d.b4 (decide (0 ≤ d.n1)))) from fun k h => by rw [h])
  generalize hFV : fvS hi (ofS st fs).1 (alwS fs).1 (nmT q.n0) (nmT q.n5) (nmT q.n4) d.b4 (decide (0 ≤ d.n1)) = FV at HQ ⊢
  have HFV := Lib.hid hFV; clear hFV
  generalize ofS st fs = O at *
  generalize alwS fs = AL at *
  obtain ⟨life, kd⟩ := O
  obtain ⟨wh, on⟩ := AL
  simp only [] at l0 l1 a0 a1 HFV
  generalize tkS q.n0 = V0 at *
  generalize tkS q.n5 = V5 at *
  generalize tkS q.n4 = V4 at *
  generalize nmT q.n0 = M0 at *
  generalize nmT q.n5 = M5 at *
  generalize nmT q.n4 = M4 at *
  have HK0 := Lib.hid K0; have HK5 := Lib.hid K5; have HK4 := Lib.hid K4; clear K0 K5 K4
  have HBs := Lib.hid (((Blk.new w 38 #[.int .i64 st, .slice A n c, .int .i64 se, .int .i64 re, .int .i64 ag, .bool hv]).alloc (.cells (dArr d) 40)).alloc (.cells (dArr q) 40))
  have HBd := Lib.hid ((show Blk ((w.alloc (.cells #[.int .i64 st, .slice A n c, .int .i64 se, .int .i64 re, .int .i64 ag, .bool hv] 38)).alloc (.cells (dArr d) 40)) (w.heap.size + 1) 40 (dArr d) by
    have h := Blk.new (w.alloc (.cells #[.int .i64 st, .slice A n c, .int .i64 se, .int .i64 re, .int .i64 ag, .bool hv] 38)) 40 (dArr d)
    rw [World.size_alloc] at h; exact h).alloc (.cells (dArr q) 40))
  have HBq := Lib.hid (show Blk (((w.alloc (.cells #[.int .i64 st, .slice A n c, .int .i64 se, .int .i64 re, .int .i64 ag, .bool hv] 38)).alloc (.cells (dArr d) 40)).alloc (.cells (dArr q) 40)) (w.heap.size + 1 + 1) 40 (dArr q) by
    have h := Blk.new ((w.alloc (.cells #[.int .i64 st, .slice A n c, .int .i64 se, .int .i64 re, .int .i64 ag, .bool hv] 38)).alloc (.cells (dArr d) 40)) 40 (dArr q)
    rw [World.size_alloc, World.size_alloc] at h; exact h)
  have HE := Lib.hid ((((Ext.refl w).alloc (.cells #[.int .i64 st, .slice A n c, .int .i64 se, .int .i64 re, .int .i64 ag, .bool hv] 38)).alloc (.cells (dArr d) 40)).alloc (.cells (dArr q) 40))
  go_enter Tryz.func18, Tryz.ntmps18
  go_wp2_with fail
  generalize ((w.alloc (.cells #[.int .i64 st, .slice A n c, .int .i64 se, .int .i64 re, .int .i64 ag, .bool hv] 38)).alloc (.cells (dArr d) 40)).alloc (.cells (dArr q) 40) = W0 at *
  refine (HO.out _ HE.out).mono ?_; rintro e w1 ⟨rfl, hb1⟩
  have s1 := (HBs.out.ext hb1).cell 1
  rw [show pairV (life, kd) = .tuple #[.int .i64 life, .int .i64 kd] from rfl]
  go_wp2_with fail
  refine (HA.out _ (HE.out.trans hb1)).mono ?_; rintro e w2 ⟨rfl, hb2⟩
  have h2 := hb1.trans hb2
  clear s1
  have q0 : w2.cell? ⟨w.heap.size + 1 + 1, 6, none⟩ = some (.int .i64 q.n0) := (HBq.out.ext h2).cell 6
  have q1 : w2.cell? ⟨w.heap.size + 1 + 1, 11, none⟩ = some (.int .i64 q.n5) := (HBq.out.ext h2).cell 11
  have q2 : w2.cell? ⟨w.heap.size + 1 + 1, 10, none⟩ = some (.int .i64 q.n4) := (HBq.out.ext h2).cell 10
  have d0 : w2.cell? ⟨w.heap.size + 1, 4, none⟩ = some (.bool d.b4) := (HBd.out.ext h2).cell 4
  have d1 : w2.cell? ⟨w.heap.size + 1, 7, none⟩ = some (.int .i64 d.n1) := (HBd.out.ext h2).cell 7
  rw [show pairV (wh, on) = .tuple #[.int .i64 wh, .int .i64 on] from rfl]
  go_wp2_with fail
  refine (HT0.out _).mono ?_; rintro e w3 ⟨rfl, rfl⟩
  go_wp2_with fail
  refine (HT5.out _).mono ?_; rintro e w3 ⟨rfl, rfl⟩
  go_wp2_with fail
  refine (HT4.out _).mono ?_; rintro e w3 ⟨rfl, rfl⟩
  have HH := Lib.hid (HE.out.trans h2)
  clear hb1 hb2 h2
  generalize decide (0 ≤ q.n0) = B0 at *
  generalize decide (0 ≤ q.n5) = B5 at *
  generalize decide (0 ≤ q.n4) = B4 at *
  by_cases h1p : hi < life
  · rcases HK0.out with ⟨rfl, m0a, m0b, m0c⟩ | ⟨rfl, m0a⟩
    · by_cases h2p : hi < V0
      · rcases HK5.out with ⟨rfl, m5a, m5b, m5c⟩ | ⟨rfl, m5a⟩
        · by_cases h3p : hi + V5 < life
          · have h4p : hi < life + wh := by omega
            have HL := Lib.hid (HQ.out 1 (HFV.out.symm.trans (fv1 (by omega))))
            go_wp2_with fail
            go_ret
            exact ⟨HL.out, HH.out⟩
          · rcases HK4.out with ⟨rfl, m4a, m4b, m4c⟩ | ⟨rfl, m4a⟩
            · have h4p : hi < life + wh := by omega
              have h5p : hi < life + V4 := by omega
              have HL := Lib.hid (HQ.out 0 (HFV.out.symm.trans (fv0 (by omega) (by omega) (.inl (by omega)))))
              go_wp2_with fail
              go_ret
              exact ⟨HL.out, HH.out⟩
            · have h4p : hi < life + wh := by omega
              have HL := Lib.hid (HQ.out 0 (HFV.out.symm.trans (fv0 (by omega) (by omega) (.inl (by omega)))))
              go_wp2_with fail
              go_ret
              exact ⟨HL.out, HH.out⟩
        · have h4p : hi < life + wh := by omega
          have HL := Lib.hid (HQ.out 1 (HFV.out.symm.trans (fv1 (by omega))))
          go_wp2_with fail
          go_ret
          exact ⟨HL.out, HH.out⟩
      · rcases HK4.out with ⟨rfl, m4a, m4b, m4c⟩ | ⟨rfl, m4a⟩
        · rcases HK5.out with ⟨rfl, m5a, m5b, m5c⟩ | ⟨rfl, m5a⟩
          · have h4p : hi < life + wh := by omega
            have h5p : hi < life + V4 := by omega
            have HL := Lib.hid (HQ.out 0 (HFV.out.symm.trans (fv0 (by omega) (by omega) (.inl (by omega)))))
            go_wp2_with fail
            go_ret
            exact ⟨HL.out, HH.out⟩
          · cases hmr : d.b4
            · (try rw [hmr] at d0)
              by_cases sap : 0 ≤ d.n1
              · have h4p : hi < life + wh := by omega
                have h5p : hi < life + V4 := by omega
                have HL := Lib.hid (HQ.out 0 (HFV.out.symm.trans (fv0 (by omega) (by omega) (.inr (.inr (decide_eq_true sap))))))
                have hz := decide_eq_false (show ¬ d.n1 < 0 by omega)
                go_wp2_with fail
                go_ret
                exact ⟨HL.out, HH.out⟩
              · by_cases h6p : hi < V0 + V4
                · have h4p : hi < life + wh := by omega
                  have h5p : hi < life + V4 := by omega
                  have HL := Lib.hid (HQ.out 3 (HFV.out.symm.trans (fv3 (by omega) (by omega) (by omega) hmr (decide_eq_false sap) (by omega))))
                  have hz := decide_eq_true (show d.n1 < 0 by omega)
                  go_wp2_with fail
                  go_ret
                  exact ⟨HL.out, HH.out⟩
                · have h4p : hi < life + wh := by omega
                  have h5p : hi < life + V4 := by omega
                  have HL := Lib.hid (HQ.out 0 (HFV.out.symm.trans (fv0 (by omega) (by omega) (.inl (by omega)))))
                  have hz := decide_eq_true (show d.n1 < 0 by omega)
                  go_wp2_with fail
                  go_ret
                  exact ⟨HL.out, HH.out⟩
            · (try rw [hmr] at d0)
              have h4p : hi < life + wh := by omega
              have h5p : hi < life + V4 := by omega
              have HL := Lib.hid (HQ.out 0 (HFV.out.symm.trans (fv0 (by omega) (by omega) (.inr (.inl hmr)))))
              go_wp2_with fail
              go_ret
              exact ⟨HL.out, HH.out⟩
        · have h4p : hi < life + wh := by omega
          have HL := Lib.hid (HQ.out 0 (HFV.out.symm.trans (fv0 (by omega) (by omega) (.inl (by omega)))))
          go_wp2_with fail
          go_ret
          exact ⟨HL.out, HH.out⟩
    · rcases HK5.out with ⟨rfl, m5a, m5b, m5c⟩ | ⟨rfl, m5a⟩
      · by_cases h3p : hi + V5 < life
        · have h4p : hi < life + wh := by omega
          have HL := Lib.hid (HQ.out 1 (HFV.out.symm.trans (fv1 (by omega))))
          go_wp2_with fail
          go_ret
          exact ⟨HL.out, HH.out⟩
        · rcases HK4.out with ⟨rfl, m4a, m4b, m4c⟩ | ⟨rfl, m4a⟩
          · have h4p : hi < life + wh := by omega
            have h5p : hi < life + V4 := by omega
            have HL := Lib.hid (HQ.out 0 (HFV.out.symm.trans (fv0 (by omega) (by omega) (.inl (by omega)))))
            go_wp2_with fail
            go_ret
            exact ⟨HL.out, HH.out⟩
          · have h4p : hi < life + wh := by omega
            have HL := Lib.hid (HQ.out 0 (HFV.out.symm.trans (fv0 (by omega) (by omega) (.inl (by omega)))))
            go_wp2_with fail
            go_ret
            exact ⟨HL.out, HH.out⟩
      · have h4p : hi < life + wh := by omega
        have HL := Lib.hid (HQ.out 1 (HFV.out.symm.trans (fv1 (by omega))))
        go_wp2_with fail
        go_ret
        exact ⟨HL.out, HH.out⟩
  · by_cases h4p : hi < life + wh
    · rcases HK0.out with ⟨rfl, m0a, m0b, m0c⟩ | ⟨rfl, m0a⟩
      · rcases HK4.out with ⟨rfl, m4a, m4b, m4c⟩ | ⟨rfl, m4a⟩
        · rcases HK5.out with ⟨rfl, m5a, m5b, m5c⟩ | ⟨rfl, m5a⟩
          · have HL := Lib.hid (HQ.out 0 (HFV.out.symm.trans (fv0 (by omega) (by omega) (.inl (by omega)))))
            go_wp2_with fail
            go_ret
            exact ⟨HL.out, HH.out⟩
          · cases hmr : d.b4
            · (try rw [hmr] at d0)
              by_cases sap : 0 ≤ d.n1
              · have HL := Lib.hid (HQ.out 0 (HFV.out.symm.trans (fv0 (by omega) (by omega) (.inr (.inr (decide_eq_true sap))))))
                have hz := decide_eq_false (show ¬ d.n1 < 0 by omega)
                go_wp2_with fail
                go_ret
                exact ⟨HL.out, HH.out⟩
              · by_cases h5p : hi < life + V4
                · by_cases h6p : hi < V0 + V4
                  · have HL := Lib.hid (HQ.out 3 (HFV.out.symm.trans (fv3 (by omega) (by omega) (by omega) hmr (decide_eq_false sap) (by omega))))
                    have hz := decide_eq_true (show d.n1 < 0 by omega)
                    go_wp2_with fail
                    go_ret
                    exact ⟨HL.out, HH.out⟩
                  · have HL := Lib.hid (HQ.out 0 (HFV.out.symm.trans (fv0 (by omega) (by omega) (.inl (by omega)))))
                    have hz := decide_eq_true (show d.n1 < 0 by omega)
                    go_wp2_with fail
                    go_ret
                    exact ⟨HL.out, HH.out⟩
                · have HL := Lib.hid (HQ.out 0 (HFV.out.symm.trans (fv0 (by omega) (by omega) (.inl (by omega)))))
                  have hz := decide_eq_true (show d.n1 < 0 by omega)
                  go_wp2_with fail
                  go_ret
                  exact ⟨HL.out, HH.out⟩
            · (try rw [hmr] at d0)
              have HL := Lib.hid (HQ.out 0 (HFV.out.symm.trans (fv0 (by omega) (by omega) (.inr (.inl hmr)))))
              go_wp2_with fail
              go_ret
              exact ⟨HL.out, HH.out⟩
        · have HL := Lib.hid (HQ.out 0 (HFV.out.symm.trans (fv0 (by omega) (by omega) (.inl (by omega)))))
          go_wp2_with fail
          go_ret
          exact ⟨HL.out, HH.out⟩
      · rcases HK5.out with ⟨rfl, m5a, m5b, m5c⟩ | ⟨rfl, m5a⟩
        · rcases HK4.out with ⟨rfl, m4a, m4b, m4c⟩ | ⟨rfl, m4a⟩
          · have HL := Lib.hid (HQ.out 0 (HFV.out.symm.trans (fv0 (by omega) (by omega) (.inl (by omega)))))
            go_wp2_with fail
            go_ret
            exact ⟨HL.out, HH.out⟩
          · have HL := Lib.hid (HQ.out 0 (HFV.out.symm.trans (fv0 (by omega) (by omega) (.inl (by omega)))))
            go_wp2_with fail
            go_ret
            exact ⟨HL.out, HH.out⟩
        · have HL := Lib.hid (HQ.out 2 (HFV.out.symm.trans (fv2 (by omega) (by omega))))
          go_wp2_with fail
          go_ret
          exact ⟨HL.out, HH.out⟩
    · rcases HK4.out with ⟨rfl, m4a, m4b, m4c⟩ | ⟨rfl, m4a⟩
      · rcases HK5.out with ⟨rfl, m5a, m5b, m5c⟩ | ⟨rfl, m5a⟩
        · have HL := Lib.hid (HQ.out 0 (HFV.out.symm.trans (fv0 (by omega) (by omega) (.inl (by omega)))))
          go_wp2_with fail
          go_ret
          exact ⟨HL.out, HH.out⟩
        · cases hmr : d.b4
          · (try rw [hmr] at d0)
            by_cases sap : 0 ≤ d.n1
            · have HL := Lib.hid (HQ.out 0 (HFV.out.symm.trans (fv0 (by omega) (by omega) (.inr (.inr (decide_eq_true sap))))))
              have hz := decide_eq_false (show ¬ d.n1 < 0 by omega)
              go_wp2_with fail
              go_ret
              exact ⟨HL.out, HH.out⟩
            · by_cases h5p : hi < life + V4
              · rcases HK0.out with ⟨rfl, m0a, m0b, m0c⟩ | ⟨rfl, m0a⟩
                · by_cases h6p : hi < V0 + V4
                  · have HL := Lib.hid (HQ.out 3 (HFV.out.symm.trans (fv3 (by omega) (by omega) (by omega) hmr (decide_eq_false sap) (by omega))))
                    have hz := decide_eq_true (show d.n1 < 0 by omega)
                    go_wp2_with fail
                    go_ret
                    exact ⟨HL.out, HH.out⟩
                  · have HL := Lib.hid (HQ.out 0 (HFV.out.symm.trans (fv0 (by omega) (by omega) (.inl (by omega)))))
                    have hz := decide_eq_true (show d.n1 < 0 by omega)
                    go_wp2_with fail
                    go_ret
                    exact ⟨HL.out, HH.out⟩
                · have HL := Lib.hid (HQ.out 3 (HFV.out.symm.trans (fv3 (by omega) (by omega) (by omega) hmr (decide_eq_false sap) (by omega))))
                  have hz := decide_eq_true (show d.n1 < 0 by omega)
                  go_wp2_with fail
                  go_ret
                  exact ⟨HL.out, HH.out⟩
              · have HL := Lib.hid (HQ.out 0 (HFV.out.symm.trans (fv0 (by omega) (by omega) (.inl (by omega)))))
                have hz := decide_eq_true (show d.n1 < 0 by omega)
                go_wp2_with fail
                go_ret
                exact ⟨HL.out, HH.out⟩
          · (try rw [hmr] at d0)
            have HL := Lib.hid (HQ.out 0 (HFV.out.symm.trans (fv0 (by omega) (by omega) (.inr (.inl hmr)))))
            go_wp2_with fail
            go_ret
            exact ⟨HL.out, HH.out⟩
      · have HL := Lib.hid (HQ.out 0 (HFV.out.symm.trans (fv0 (by omega) (by omega) (.inl (by omega)))))
        go_wp2_with fail
        go_ret
        exact ⟨HL.out, HH.out⟩

set_option maxHeartbeats 16000000 in
set_option maxRecDepth 100000 in
theorem policy_Judge (st : Int) (A : Option Addr) (n c : Nat) (fs : List Fd) (se re ag : Int) (hv : Bool) (q : D) (now ppm : Int) (w : World) (hf : RdF w A n fs) (hn : n ≤ 1073741824) (hsz : Bsz 1048576 fs) (hg : GlH w) (hT : sumF fs + 2 * n ≤ 70368744177664) (hgl : Gl w) :
    Calls Tryz.prog 7 #[.agg #[.int .i64 st, .slice A n c, .int .i64 se, .int .i64 re, .int .i64 ag, .bool hv], .agg (dArr q), .int .i64 now, .int .i64 ppm] w fun e w' => e = .returned (.int .i64 (jdS ⟨st, fs, ⟨se, re, ag⟩, hv⟩ q now ppm)) ∧ Ext w w' := by
  have HP := Lib.hid (fun w' (h : Ext w w') => show Calls Tryz.prog 16 #[.slice A n c] w' fun e w'' => e = .returned (.agg (dArr (ccD fs))) ∧ Ext w' w'' from dir_Parse A n c fs w' (hf.ext h) hn hsz (hgl.ext h))
  have HAt := Lib.hid (age_At se re ag now ppm)
  have HFr := Lib.hid (fun (D : D) (hi : Int) (h0 : 0 ≤ hi) (h1 : hi ≤ 6545530159104) w' (h : Ext w w') => policy_fresh st A n c fs se re ag hv D q hi h0 h1 w' (hf.ext h) hn hsz (hg.ext h) hT (hgl.ext h))
  have Hbd := Lib.hid (fun p (h : atO ⟨se, re, ag⟩ now ppm = some p) => atO_bd h)
  have HJ := Lib.hid (show jdS ⟨st, fs, ⟨se, re, ag⟩, hv⟩ q now ppm = if ((atO ⟨se, re, ag⟩ now ppm).isSome && !(ccD fs).b1 && !q.b1) = true ∧ fvS (hiS ⟨st, fs, ⟨se, re, ag⟩, hv⟩ now ppm) (ofS st fs).1 (alwS fs).1 (nmT q.n0) (nmT q.n5) (nmT q.n4) (ccD fs).b4 (decide (0 ≤ (ccD fs).n1)) ≠ 0 then fvS (hiS ⟨st, fs, ⟨se, re, ag⟩, hv⟩ now ppm) (ofS st fs).1 (alwS fs).1 (nmT q.n0) (nmT q.n5) (nmT q.n4) (ccD fs).b4 (decide (0 ≤ (ccD fs).n1)) else if hv then 4 else 5 from vd_fv ..)
  have Hhi := Lib.hid (show hiS ⟨st, fs, ⟨se, re, ag⟩, hv⟩ now ppm = match atO ⟨se, re, ag⟩ now ppm with | some p => p.2 | none => 0 from rfl)
  generalize jdS ⟨st, fs, ⟨se, re, ag⟩, hv⟩ q now ppm = J at *
  generalize hiS ⟨st, fs, ⟨se, re, ag⟩, hv⟩ now ppm = hi at *
  generalize atO ⟨se, re, ag⟩ now ppm = O at *
  generalize (ofS st fs).1 = life at *
  generalize (alwS fs).1 = wh at *
  generalize ccD fs = D at *
  have HBs := Lib.hid ((Blk.new w 38 #[.int .i64 st, .slice A n c, .int .i64 se, .int .i64 re, .int .i64 ag, .bool hv]).alloc (.cells (dArr q) 40))
  have HBq := Lib.hid (show Blk ((w.alloc (.cells #[.int .i64 st, .slice A n c, .int .i64 se, .int .i64 re, .int .i64 ag, .bool hv] 38)).alloc (.cells (dArr q) 40)) (w.heap.size + 1) 40 (dArr q) by
    have h := Blk.new (w.alloc (.cells #[.int .i64 st, .slice A n c, .int .i64 se, .int .i64 re, .int .i64 ag, .bool hv] 38)) 40 (dArr q)
    rw [World.size_alloc] at h; exact h)
  have HE := Lib.hid (((Ext.refl w).alloc (.cells #[.int .i64 st, .slice A n c, .int .i64 se, .int .i64 re, .int .i64 ag, .bool hv] 38)).alloc (.cells (dArr q) 40))
  have hE1 : ∀ w0 w1 wd, Ext w0 w1 → ExtB w1.heap.size (w1.alloc (.cells (dArr zeroD) 40)) wd → Ext w0 wd := fun w0 w1 wd h k => (h.alloc _).growB k h.size
  have HE1 := Lib.hid hE1; clear hE1
  go_enter Tryz.func7, Tryz.ntmps7
  go_wp2_with fail
  generalize (w.alloc (.cells #[.int .i64 st, .slice A n c, .int .i64 se, .int .i64 re, .int .i64 ag, .bool hv] 38)).alloc (.cells (dArr q) 40) = W0 at *
  refine (HP.out _ HE.out).mono ?_; rintro e w1 ⟨rfl, hb1⟩
  go_wp2_with (first | (refine wpList_storeB rfl 40 (.tmp 9) (.tmp 16) rfl rfl w1.heap.size _ rfl rfl 40 _ (Blk.new w1 _ _) infoDp rfl (dArr_one D) ?_; intro wd hBd hxd; have hB2 := HE1.out _ _ _ hb1 hxd; have s2 := (HBs.out.ext hB2).cell 2; have s3 := (HBs.out.ext hB2).cell 3; have s4 := (HBs.out.ext hB2).cell 4))
  have HBd := Lib.hid hBd
  clear hBd hxd
  generalize w1.heap.size = bd at *
  refine (HAt.out _).mono ?_; rintro e w3 ⟨rfl, hb3⟩
  have h3 := hB2.trans hb3
  clear s2 s3 s4
  have s0 := (HBs.out.ext h3).cell 0
  have s1 := (HBs.out.ext h3).cell 1
  have s2 := (HBs.out.ext h3).cell 2
  have s3 := (HBs.out.ext h3).cell 3
  have s4 := (HBs.out.ext h3).cell 4
  have s5 := (HBs.out.ext h3).cell 5
  have d1 : w3.cell? ⟨bd, 1, none⟩ = some (.bool D.b1) := (HBd.out.ext hb3).cell 1
  have q1 : w3.cell? ⟨w.heap.size + 1, 1, none⟩ = some (.bool q.b1) := (HBq.out.ext h3).cell 1
  have HBd3 := Lib.hid (HBd.out.ext hb3)
  have HBq3 := Lib.hid (HBq.out.ext h3)
  have HH := Lib.hid (HE.out.trans h3)
  cases O with
  | none =>
    have HL := Lib.hid (show J = if hv then 4 else 5 by rw [HJ.out, if_neg (by simp)])
    unfold atV
    cases hv
    all_goals
      go_wp2_with fail
      go_ret
      exact ⟨ret_n HL.out.symm, HH.out⟩
  | some p =>
    obtain ⟨lo, hi2⟩ := p
    obtain ⟨_, _, u0, u1⟩ := Hbd.out _ rfl
    obtain rfl : hi = hi2 := Hhi.out
    simp only [] at u0 u1
    unfold atV
    cases hdb : D.b1
    rotate_left
    · have HL := Lib.hid (show J = if hv then 4 else 5 by rw [HJ.out, if_neg (by simp [hdb])])
      have d1 : w3.cell? ⟨bd, 1, none⟩ = some (.bool true) := by rw [← hdb]; exact d1
      cases hv
      all_goals
        go_wp2_with fail
        go_ret
        exact ⟨ret_n HL.out.symm, HH.out⟩
    have d1 : w3.cell? ⟨bd, 1, none⟩ = some (.bool false) := by rw [← hdb]; exact d1
    cases hqb : q.b1
    rotate_left
    · have HL := Lib.hid (show J = if hv then 4 else 5 by rw [HJ.out, if_neg (by simp [hqb])])
      have q1 : w3.cell? ⟨w.heap.size + 1, 1, none⟩ = some (.bool true) := by rw [← hqb]; exact q1
      cases hv
      all_goals
        go_wp2_with fail
        go_ret
        exact ⟨ret_n HL.out.symm, HH.out⟩
    have q1 : w3.cell? ⟨w.heap.size + 1, 1, none⟩ = some (.bool false) := by rw [← hqb]; exact q1
    have HF1 := Lib.hid (HFr.out D hi u0 (by omega))
    have HJ2 := Lib.hid (show J = if fvS hi life wh (nmT q.n0) (nmT q.n5) (nmT q.n4) D.b4 (decide (0 ≤ D.n1)) ≠ 0 then fvS hi life wh (nmT q.n0) (nmT q.n5) (nmT q.n4) D.b4 (decide (0 ≤ D.n1)) else if hv then 4 else 5 by
      rw [HJ.out, hdb, hqb]; simp)
    clear HJ HFr
    generalize fvS hi life wh (nmT q.n0) (nmT q.n5) (nmT q.n4) D.b4 (decide (0 ≤ D.n1)) = FV at *
    go_wp2_with (first
      | (refine wpList_loadB rfl 40 (.tmp 9) rfl bd rfl 40 _ HBd3.out _ Tryz.underlying40 infoDp ?_)
      | (refine wpList_loadB rfl 40 (.tmp 5) rfl (w.heap.size + 1) rfl 40 _ HBq3.out _ Tryz.underlying40 infoDp ?_))
    refine (HF1.out _ HH.out).mono ?_; rintro e w4 ⟨rfl, hb4⟩
    have s5' := hb4.cell s5
    have HH4 := Lib.hid (HH.out.trans hb4)
    by_cases hz : FV = 0
    · subst hz
      have HL := Lib.hid (show J = if hv then 4 else 5 from HJ2.out)
      cases hv
      all_goals
        go_wp2_with fail
        go_ret
        exact ⟨ret_n HL.out.symm, HH4.out⟩
    · have HL := Lib.hid (show J = FV by rw [HJ2.out, if_pos hz])
      have hzb : (FV != 0) = true := by simpa using hz
      go_wp2_with fail
      go_ret
      exact ⟨ret_n HL.out.symm, HH4.out⟩

set_option maxHeartbeats 16000000 in
set_option maxRecDepth 100000 in
theorem policy_OnError (st : Int) (A : Option Addr) (n c : Nat) (fs : List Fd) (se re ag : Int) (hv : Bool) (now ppm : Int) (w : World) (hf : RdF w A n fs) (hn : n ≤ 1073741824) (hsz : Bsz 1048576 fs) (hg : GlH w) (hT : sumF fs + 2 * n ≤ 70368744177664) (hgl : Gl w) :
    Calls Tryz.prog 11 #[.agg #[.int .i64 st, .slice A n c, .int .i64 se, .int .i64 re, .int .i64 ag, .bool hv], .int .i64 now, .int .i64 ppm] w fun e w' => e = .returned (.bool (oeS ⟨st, fs, ⟨se, re, ag⟩, hv⟩ now ppm)) ∧ Ext w w' := by
  have HP := Lib.hid (fun w' (h : Ext w w') => show Calls Tryz.prog 16 #[.slice A n c] w' fun e w'' => e = .returned (.agg (dArr (ccD fs))) ∧ Ext w' w'' from dir_Parse A n c fs w' (hf.ext h) hn hsz (hgl.ext h))
  have HO := Lib.hid (fun w' (h : Ext w w') => life_Of st A n c fs w' (hf.ext h) hn hsz (hg.ext h) hT (hgl.ext h))
  have HA := Lib.hid (fun w' (h : Ext w w') => life_Allowance A n c fs w' (hf.ext h) hn hsz (hgl.ext h))
  have HAt := Lib.hid (age_At se re ag now ppm)
  have Hbd := Lib.hid (fun p (h : atO ⟨se, re, ag⟩ now ppm = some p) => atO_bd h)
  have HJ := Lib.hid (show oeS ⟨st, fs, ⟨se, re, ag⟩, hv⟩ now ppm = ((atO ⟨se, re, ag⟩ now ppm).isSome && !(ccD fs).b1 && decide ((match atO ⟨se, re, ag⟩ now ppm with | some p => p.2 | none => 0) < (ofS st fs).1 + (alwS fs).2)) from rfl)
  obtain ⟨l0, l1, _⟩ := ofS_bd st fs
  obtain ⟨_, _, a0, a1⟩ := alwS_bd fs
  generalize oeS ⟨st, fs, ⟨se, re, ag⟩, hv⟩ now ppm = J at *
  generalize atO ⟨se, re, ag⟩ now ppm = O at *
  generalize ofS st fs = OF at *
  generalize alwS fs = AL at *
  obtain ⟨life, kd⟩ := OF
  obtain ⟨wh, on⟩ := AL
  simp only [] at l0 l1 a0 a1 HJ
  generalize ccD fs = D at *
  have HBs := Lib.hid (Blk.new w 38 #[.int .i64 st, .slice A n c, .int .i64 se, .int .i64 re, .int .i64 ag, .bool hv])
  have HE := Lib.hid ((Ext.refl w).alloc (.cells #[.int .i64 st, .slice A n c, .int .i64 se, .int .i64 re, .int .i64 ag, .bool hv] 38))
  go_enter Tryz.func11, Tryz.ntmps11
  go_wp2_with fail
  generalize w.alloc (.cells #[.int .i64 st, .slice A n c, .int .i64 se, .int .i64 re, .int .i64 ag, .bool hv] 38) = W0 at *
  refine (HAt.out _).mono ?_; rintro e w1 ⟨rfl, hb1⟩
  have s0 := (HBs.out.ext hb1).cell 0
  have s1 := (HBs.out.ext hb1).cell 1
  cases O with
  | none =>
    have HL := Lib.hid (show J = false by rw [HJ.out]; rfl)
    unfold atV
    go_wp2_with fail
    go_ret
    exact ⟨ret_b HL.out.symm, HE.out.trans hb1⟩
  | some p =>
    obtain ⟨lo, hi⟩ := p
    obtain ⟨_, _, u0, u1⟩ := Hbd.out _ rfl
    simp only [] at u0 u1
    unfold atV
    go_wp2_with fail
    refine (HP.out _ (HE.out.trans hb1)).mono ?_; rintro e w2 ⟨rfl, hb2⟩
    have s0 := hb2.cell s0
    have s1 := hb2.cell s1
    have h2 := hb1.trans hb2
    cases hD : D.b1
    rotate_left
    · have HL := Lib.hid (show J = false by rw [HJ.out, hD]; rfl)
      have hfd : ∀ w, (Instr.field 40 (.agg (dArr D)) 1).run Tryz.prog w = .ok (.bool true) w := fun w => by rw [dp_fld1, hD]
      go_wp2_with fail
      go_ret
      exact ⟨ret_b HL.out.symm, HE.out.trans h2⟩
    · have HL := Lib.hid (show J = decide (hi < life + on) by rw [HJ.out, hD]; simp)
      have hfd : ∀ w, (Instr.field 40 (.agg (dArr D)) 1).run Tryz.prog w = .ok (.bool false) w := fun w => by rw [dp_fld1, hD]
      go_wp2_with fail
      refine (HO.out _ (HE.out.trans h2)).mono ?_; rintro e w3 ⟨rfl, hb3⟩
      have s1 := hb3.cell s1
      have h3 := h2.trans hb3
      rw [show pairV (life, kd) = .tuple #[.int .i64 life, .int .i64 kd] from rfl]
      go_wp2_with fail
      refine (HA.out _ (HE.out.trans h3)).mono ?_; rintro e w4 ⟨rfl, hb4⟩
      have h4 := h3.trans hb4
      rw [show pairV (wh, on) = .tuple #[.int .i64 wh, .int .i64 on] from rfl]
      go_wp2_with fail
      go_ret
      exact ⟨ret_b HL.out.symm, HE.out.trans h4⟩

set_option maxHeartbeats 16000000 in
set_option maxRecDepth 100000 in
theorem policy_Limit (st : Int) (A : Option Addr) (n c : Nat) (fs : List Fd) (se re ag : Int) (hv : Bool) (w : World) (hf : RdF w A n fs) (hn : n ≤ 1073741824) (hsz : Bsz 1048576 fs) (hg : GlH w) (hT : sumF fs + 2 * n ≤ 70368744177664) (hgl : Gl w) :
    Calls Tryz.prog 13 #[.agg #[.int .i64 st, .slice A n c, .int .i64 se, .int .i64 re, .int .i64 ag, .bool hv]] w fun e w' => e = .returned (.int .i64 (lmS ⟨st, fs, ⟨se, re, ag⟩, hv⟩)) ∧ Ext w w' := by
  have HP := Lib.hid (fun w' (h : Ext w w') => show Calls Tryz.prog 16 #[.slice A n c] w' fun e w'' => e = .returned (.agg (dArr (ccD fs))) ∧ Ext w' w'' from dir_Parse A n c fs w' (hf.ext h) hn hsz (hgl.ext h))
  have HO := Lib.hid (fun w' (h : Ext w w') => life_Of st A n c fs w' (hf.ext h) hn hsz (hg.ext h) hT (hgl.ext h))
  have HA := Lib.hid (fun w' (h : Ext w w') => life_Allowance A n c fs w' (hf.ext h) hn hsz (hgl.ext h))
  have HJ := Lib.hid (show lmS ⟨st, fs, ⟨se, re, ag⟩, hv⟩ = if (ccD fs).b1 then 0 else (ofS st fs).1 + max (alwS fs).1 (alwS fs).2 from rfl)
  obtain ⟨l0, l1, _⟩ := ofS_bd st fs
  obtain ⟨a0, a1, a2, a3⟩ := alwS_bd fs
  generalize lmS ⟨st, fs, ⟨se, re, ag⟩, hv⟩ = J at *
  generalize ofS st fs = OF at *
  generalize alwS fs = AL at *
  obtain ⟨life, kd⟩ := OF
  obtain ⟨wh, on⟩ := AL
  simp only [] at l0 l1 a0 a1 a2 a3 HJ
  generalize ccD fs = D at *
  have HBs := Lib.hid (Blk.new w 38 #[.int .i64 st, .slice A n c, .int .i64 se, .int .i64 re, .int .i64 ag, .bool hv])
  have HE := Lib.hid ((Ext.refl w).alloc (.cells #[.int .i64 st, .slice A n c, .int .i64 se, .int .i64 re, .int .i64 ag, .bool hv] 38))
  go_enter Tryz.func13, Tryz.ntmps13
  go_wp2_with fail
  generalize w.alloc (.cells #[.int .i64 st, .slice A n c, .int .i64 se, .int .i64 re, .int .i64 ag, .bool hv] 38) = W0 at *
  refine (HP.out _ HE.out).mono ?_; rintro e w2 ⟨rfl, h2⟩
  have s0 := (HBs.out.ext h2).cell 0
  have s1 := (HBs.out.ext h2).cell 1
  cases hD : D.b1
  rotate_left
  · have HL := Lib.hid (show J = 0 by rw [HJ.out, hD]; rfl)
    have hfd : ∀ w, (Instr.field 40 (.agg (dArr D)) 1).run Tryz.prog w = .ok (.bool true) w := fun w => by rw [dp_fld1, hD]
    go_wp2_with fail
    go_ret
    exact ⟨ret_n HL.out.symm, HE.out.trans h2⟩
  · have HL := Lib.hid (show J = life + max wh on by rw [HJ.out, hD]; rfl)
    have hfd : ∀ w, (Instr.field 40 (.agg (dArr D)) 1).run Tryz.prog w = .ok (.bool false) w := fun w => by rw [dp_fld1, hD]
    go_wp2_with fail
    refine (HO.out _ (HE.out.trans h2)).mono ?_; rintro e w3 ⟨rfl, hb3⟩
    have s1 := hb3.cell s1
    have h3 := h2.trans hb3
    rw [show pairV (life, kd) = .tuple #[.int .i64 life, .int .i64 kd] from rfl]
    go_wp2_with fail
    refine (HA.out _ (HE.out.trans h3)).mono ?_; rintro e w4 ⟨rfl, hb4⟩
    have h4 := h3.trans hb4
    rw [show pairV (wh, on) = .tuple #[.int .i64 wh, .int .i64 on] from rfl]
    by_cases hm : wh ≤ on
    · go_wp2_with fail
      all_goals
        go_ret
        exact ⟨ret_n (by rw [HL.out]; try omega), HE.out.trans h4⟩
    · go_wp2_with fail
      all_goals
        go_ret
        exact ⟨ret_n (by rw [HL.out]; try omega), HE.out.trans h4⟩
end Go.Proofs.YtocniclkooiggaaGreatDoor

namespace Go.Proofs.YtocniclkooiggaaGreatDoor
open Go.RowKit

theorem sizeF_step {fs : List Fd} {k : Nat} (h : k < fs.length) : sumF (fs.take (k + 1)) + 4 * (k + 1) = sumF (fs.take k) + 4 * k + (fs[k].1.size + fs[k].2.size + 4) := by
  rw [sumF_step h]; omega

def awakeFs : List Fd := [(⟨#[65]⟩, ⟨#[49]⟩), (⟨#[98]⟩, ⟨#[120]⟩), (⟨#[97]⟩, ⟨#[50]⟩)]
theorem awake_get : joinS (allS awakeFs ⟨#[65]⟩) = ⟨#[49, 44, 32, 50]⟩ ∧ (allS awakeFs ⟨#[65]⟩).length = 2 ∧ sumF awakeFs + 4 * 3 = 18 := by decide +kernel

theorem awake_bsz : Bsz 1 awakeFs := by unfold Bsz; decide +kernel

theorem gets_small {fs : List Fd} (h : smallS fs = true) : fs.length ≤ 70 ∧ sumF fs ≤ 6000 := by
  simpa [smallS] using h

end Go.Proofs.YtocniclkooiggaaGreatDoor

namespace Go.Proofs.YtocniclkooiggaaGreatDoor
open Go.RowKit

theorem infoRfd : (Tryz.prog.info? 50).map (fun i => (i.zero, i.size, i.bytes)) = some (some (.agg #[.string ⟨#[]⟩, .string ⟨#[]⟩]), 2, 32) := by kernel_rfl

end Go.Proofs.YtocniclkooiggaaGreatDoor

namespace Go.Proofs.YtocniclkooiggaaGreatDoor
open Go.RowKit

/-- Directives whose first k times are within their limits. -/
def dTo (d : D) : Nat → D
  | 0 => d
  | 1 => { d with n0 := nmT d.n0 }
  | 2 => { d with n0 := nmT d.n0, n1 := nmT d.n1 }
  | 3 => { d with n0 := nmT d.n0, n1 := nmT d.n1, n2 := nmT d.n2 }
  | 4 => { d with n0 := nmT d.n0, n1 := nmT d.n1, n2 := nmT d.n2, n3 := nmT d.n3 }
  | 5 => { d with n0 := nmT d.n0, n1 := nmT d.n1, n2 := nmT d.n2, n3 := nmT d.n3, n4 := nmT d.n4 }
  | _ => nmD d
def ptS (g : Nat) : Array Value := #[.pointer (some ⟨g, 6, none⟩), .pointer (some ⟨g, 7, none⟩), .pointer (some ⟨g, 8, none⟩), .pointer (some ⟨g, 9, none⟩), .pointer (some ⟨g, 10, none⟩), .pointer (some ⟨g, 11, none⟩)]

theorem d_cell (d : D) : ∀ k, k < 6 → ∃ x, (dArr (dTo d k))[6 + k]? = some (.int .i64 x) ∧ (dArr (dTo d k)).setIfInBounds (6 + k) (.int .i64 (max (-1) (min x 2147483647))) = dArr (dTo d (k + 1))
  | 0, _ => ⟨d.n0, rfl, rfl⟩
  | 1, _ => ⟨d.n1, rfl, rfl⟩
  | 2, _ => ⟨d.n2, rfl, rfl⟩
  | 3, _ => ⟨d.n3, rfl, rfl⟩
  | 4, _ => ⟨d.n4, rfl, rfl⟩
  | 5, _ => ⟨d.n5, rfl, rfl⟩
  | k + 6, h => absurd h (by omega)
theorem p_cell (g : Nat) : ∀ k, k < 6 → (ptS g)[k]? = some (.pointer (some ⟨g, 6 + k, none⟩))
  | 0, _ => rfl
  | 1, _ => rfl
  | 2, _ => rfl
  | 3, _ => rfl
  | 4, _ => rfl
  | 5, _ => rfl
  | k + 6, h => absurd h (by omega)

end Go.Proofs.YtocniclkooiggaaGreatDoor

namespace Go.Proofs.YtocniclkooiggaaGreatDoor
open Go.RowKit

theorem wpList_loadBG {P : Program} {ops : Array Oper} {rest : List Oper} {o : Oper} {a : Act} {w : World} {Q : Exit → Act → World → Prop} (hw : Region.wanted o (yielded ops a.tmps) = true) (ty : TypeId) (x : Operand) (ho : o.op = .load ty x)
    (g : Nat) (hx : a.eval x = .pointer (some ⟨g, 0, none⟩)) (t : TypeId) (cs : Array Value) (hg : Blk w g t cs) (fs : Array Field)
    (hu : P.underlying ty = some (.struct fs)) (hi : (P.info? ty).map (·.size) = some cs.size)
    (h : wpList P ops Q rest (a.put o.dst (.agg cs)) w) : wpList P ops Q (o :: rest) a w :=
  wpList_step fun K hK => by
    rw [if_pos hw]
    exact wp_load_row ty x ho g hx t cs (0, 0) _ hg hu rfl hi (hK _ _ h)
theorem bsz_of_sumF : ∀ (fs : List Fd), Bsz (sumF fs) fs
  | [] => fun f hf => by cases hf
  | x :: l => fun f hf => by
    have hs : sumF (x :: l) = x.1.size + x.2.size + sumF l := by simp [sumF]
    rcases List.mem_cons.1 hf with rfl | hf
    · omega
    · have := bsz_of_sumF l f hf
      omega
theorem sumF_app17 (fs gs : List Fd) : sumF (fs ++ gs) = sumF fs + sumF gs := by simp [sumF]
/-- Are there more bytes than the statements use? -/
def lg17 (fs : List Fd) : Bool := decide (3000 < 2 * fs.length + sumF fs)
set_option maxHeartbeats 2000000 in
theorem law17_large (A : Option Addr) (n c : Nat) (fs : List Fd) (w : World) (hf : RdF w A n fs) (hb : fs.length + sumF fs ≤ 1048576) :
    Calls Tryz.prog 5 #[.slice A n c] w fun e w' => e = .returned (.bool (lg17 fs)) ∧ Ext w w' := by
  have hl := hf.lenF
  have Hl := Lib.hid hl; clear hl
  have hn : n ≤ 1048576 := by have := Hl.out; omega
  have hsz := bsz_of_sumF fs
  go_enter Tryz.func5, Tryz.ntmps5
  go_wp2_with fail
  go_loopw [3, 8] (fun v i wr => ∃ k z, k ≤ n ∧ i = .int .i64 (k : Nat) ∧ v = .int .i64 (z : Nat) ∧ z = 2 * k + sumF (fs.take k) ∧ z ≤ 4194304 ∧ Ext w wr) (fun _ i _ => n - (intOf i).toNat)
  case atStart => exact ⟨0, 0, Nat.zero_le _, rfl, rfl, by simp [sumF], by omega, Ext.refl _⟩
  case round =>
    obtain ⟨k, z, hk, rfl, rfl, hz, hz2, hbr⟩ := hrel
    have Hz := Lib.hid hz; clear hz
    by_cases hlt : k < n
    · have hlt' : k < fs.length := by have := Hl.out; omega
      obtain ⟨b, o, rfl, hc0, hc1⟩ := (hf.ext hbr).atF hlt'
      have hm : sumF (fs.take k) + (fs[k].1.size + fs[k].2.size) ≤ sumF fs := by
        rw [← sumF_step hlt']
        have := sumF_app17 (fs.take (k + 1)) (fs.drop (k + 1))
        rw [List.take_append_drop] at this
        omega
      have Hst := Lib.hid (sumF_step hlt')
      have h1 : fs[k].1.size ≤ 1048576 := by omega
      have h2 : fs[k].2.size ≤ 1048576 := by omega
      have Hz3 := Lib.hid (show z + (2 + fs[k].1.size + fs[k].2.size) ≤ 4194304 by have := Hz.out; have := Hl.out; omega)
      clear hm
      generalize fs[k].1 = nm at *
      generalize fs[k].2 = vl at *
      go_wp2_with fail
      go_roundw
      case rel => exact ⟨k + 1, z + (2 + nm.size + vl.size), by omega, by go_num, by go_num, by rw [Hst.out, Hz.out]; omega, Hz3.out, hbr.alloc _⟩
      case measure => simp [intOf]; omega
    · obtain rfl : k = n := by omega
      have He := Lib.hid (show lg17 fs = decide (3000 < z) by unfold lg17; rw [Hz.out, List.take_of_length_le (by have := Hl.out; omega), Hl.out])
      go_wp2_with fail
      go_ret
      exact ⟨congrArg (fun x => Ending.returned (.bool x)) (by rw [He.out]; (try simp); (try omega)), hbr⟩
theorem lg_no17 {fs : List Fd} (h : lg17 fs = false) : 2 * fs.length + sumF fs ≤ 3000 := by
  unfold lg17 at h
  have := of_decide_eq_false h
  omega


theorem infoSt : (Tryz.prog.info? 38).map (·.size) = some 6 := by kernel_rfl
theorem infoRs : (Tryz.prog.info? 26).map (·.size) = some 6 := by kernel_rfl
theorem infoTm : (Tryz.prog.info? 36).map (·.size) = some 3 := by kernel_rfl
set_option maxHeartbeats 1000000 in
set_option maxRecDepth 100000 in
theorem law13_Times (se re ag : Int) (w : World) : Calls Tryz.prog 20 #[.agg #[.int .i64 se, .int .i64 re, .int .i64 ag]] w fun e w' => e = .returned (.agg #[.int .i64 se, .int .i64 re, .int .i64 ag]) ∧ Ext w w' := by
  have hB := Blk.new (w.alloc (.cells #[.int .i64 se, .int .i64 re, .int .i64 ag] 24)) 36 #[.int .i64 se, .int .i64 re, .int .i64 ag]
  rw [World.size_alloc] at hB
  have HB := Lib.hid hB
  clear hB
  go_enter Tryz.func20, Tryz.ntmps20
  go_wp2_with fail
  exact bodyPost_ret (v := .agg #[.int .i64 se, .int .i64 re, .int .i64 ag]) (results_cell_row rfl _ _ (w.heap.size + 1) 36 _ (0, 0) _ rfl HB.out Tryz.underlying36 rfl infoTm) rfl ⟨rfl, ((Ext.refl w).alloc _).alloc _⟩

set_option maxHeartbeats 8000000 in
set_option maxRecDepth 100000 in
theorem law17_Stored (st : Int) (A : Option Addr) (n c : Nat) (fs : List Fd) (se re ag : Int) (hv : Bool) (w : World) (hf : RdF w A n fs) (hn : n ≤ 1073741824) :
    Calls Tryz.prog 8 #[.agg #[.int .i64 st, .slice A n c, .int .i64 se, .int .i64 re, .int .i64 ag, .bool hv]] w fun e w' => ∃ A' c', e = .returned (.agg #[.int .i64 st, .slice A' n c', .int .i64 se, .int .i64 re, .int .i64 ag, .bool hv]) ∧ RdF w' A' n fs ∧ n ≤ c' ∧ Ext w w' ∧ (∀ a, A' = some a → w.heap.size ≤ a.block) := by
  have HF := Lib.hid (fun w' (h : Ext w w') => law_Fields A n c fs w' (hf.ext h) hn)
  have hB := (Blk.new w 26 #[.int .i64 st, .slice A n c, .int .i64 se, .int .i64 re, .int .i64 ag, .bool hv]).alloc (.cells #[.int .i64 0, .slice none 0 0, .int .i64 0, .int .i64 0, .int .i64 0, .bool false] 38)
  have hZ := Blk.new (w.alloc (.cells #[.int .i64 st, .slice A n c, .int .i64 se, .int .i64 re, .int .i64 ag, .bool hv] 26)) 38 #[.int .i64 0, .slice none 0 0, .int .i64 0, .int .i64 0, .int .i64 0, .bool false]
  rw [World.size_alloc] at hZ
  have hE1 := ((Ext.refl w).alloc (.cells #[.int .i64 st, .slice A n c, .int .i64 se, .int .i64 re, .int .i64 ag, .bool hv] 26)).alloc (.cells #[.int .i64 0, .slice none 0 0, .int .i64 0, .int .i64 0, .int .i64 0, .bool false] 38)
  have HB := Lib.hid hB; have HZ := Lib.hid hZ; have HW := Lib.hid hE1
  clear hB hZ hE1
  go_enter Tryz.func8, Tryz.ntmps8
  go_wp2_with fail
  generalize (w.alloc (.cells #[.int .i64 st, .slice A n c, .int .i64 se, .int .i64 re, .int .i64 ag, .bool hv] 26)).alloc (.cells #[.int .i64 0, .slice none 0 0, .int .i64 0, .int .i64 0, .int .i64 0, .bool false] 38) = W0 at *
  have HC := Lib.hid (show ∀ w', Ext W0 w' → (w'.cell? ⟨w.heap.size, 0, none⟩ = some (.int .i64 st) ∧ w'.cell? ⟨w.heap.size, 1, none⟩ = some (.slice A n c) ∧ w'.cell? ⟨w.heap.size, 2, none⟩ = some (.int .i64 se) ∧ w'.cell? ⟨w.heap.size, 3, none⟩ = some (.int .i64 re) ∧ w'.cell? ⟨w.heap.size, 4, none⟩ = some (.int .i64 ag) ∧ w'.cell? ⟨w.heap.size, 5, none⟩ = some (.bool hv)) from fun w' h => ⟨(HB.out.ext h).cell 0, (HB.out.ext h).cell 1, (HB.out.ext h).cell 2, (HB.out.ext h).cell 3, (HB.out.ext h).cell 4, (HB.out.ext h).cell 5⟩)
  have hsz := HW.out.size
  have hlt := HZ.out.lt
  have Hsz := Lib.hid (show ∀ w', Ext W0 w' → w.heap.size + 1 < w'.heap.size from fun w' h => by have := h.size; omega)
  generalize hb : w.heap.size = b at *
  have hne : b ≠ b + 1 := by omega
  have hE := (Ext.refl W0).drew
  refine wp_region_held_drew (S := (fun w' => w'.cell? ⟨b, 0, none⟩ = some (.int .i64 st) ∧ w'.cell? ⟨b, 1, none⟩ = some (.slice A n c) ∧ w'.cell? ⟨b, 2, none⟩ = some (.int .i64 se) ∧ w'.cell? ⟨b, 3, none⟩ = some (.int .i64 re) ∧ w'.cell? ⟨b, 4, none⟩ = some (.int .i64 ag) ∧ w'.cell? ⟨b, 5, none⟩ = some (.bool hv))) (by kernel_rfl) ?_ (fun hHeld => ?_)
  · (try dsimp only); exact HC.out _ hE
  refine wpAnyH_take (i := 0) (oi := { dst := some 3, op := _, type := _, pos := _, after := _, guard := _ }) (v := ?_) rfl (by kernel_rfl) (by kernel_rfl) (by kernel_rfl) (fun _ _ _ h => h) (Or.inl ⟨by rfl, ?_⟩) (by assumption) ?_
  rotate_left
  · (intro w hSw; (try dsimp only at hSw); go_simp; (try with_reducible rfl))
  (try simp only [Act.put, List.setIfInBounds_toArray, List.set_cons_zero, List.set_cons_succ])
  refine wpAnyH_take (i := 1) (oi := { dst := some 4, op := _, type := _, pos := _, after := _, guard := _ }) (v := ?_) rfl (by kernel_rfl) (by kernel_rfl) (by kernel_rfl) (fun _ _ _ h => h) (Or.inl ⟨by rfl, ?_⟩) (by assumption) ?_
  rotate_left
  · (intro w hSw; (try dsimp only at hSw); go_simp; (try with_reducible rfl))
  (try simp only [Act.put, List.setIfInBounds_toArray, List.set_cons_zero, List.set_cons_succ])
  refine wpAnyH_take (i := 2) (oi := { dst := some 5, op := _, type := _, pos := _, after := _, guard := _ }) (v := ?_) rfl (by kernel_rfl) (by kernel_rfl) (by kernel_rfl) (fun _ _ _ h => h) (Or.inl ⟨by rfl, ?_⟩) (by assumption) ?_
  rotate_left
  · (intro w hSw; (try dsimp only at hSw); go_simp; (try with_reducible rfl))
  (try simp only [Act.put, List.setIfInBounds_toArray, List.set_cons_zero, List.set_cons_succ])
  refine wpAnyH_take (i := 3) (oi := { dst := some 6, op := _, type := _, pos := _, after := _, guard := _ }) (v := ?_) rfl (by kernel_rfl) (by kernel_rfl) (by kernel_rfl) (fun _ _ _ h => h) (Or.inl ⟨by rfl, ?_⟩) (by assumption) ?_
  rotate_left
  · (intro w hSw; (try dsimp only at hSw); go_simp; (try with_reducible rfl))
  (try simp only [Act.put, List.setIfInBounds_toArray, List.set_cons_zero, List.set_cons_succ])
  refine wpAnyH_take (i := 5) (oi := { dst := some 8, op := _, type := _, pos := _, after := _, guard := _ }) (v := ?_) rfl (by kernel_rfl) (by kernel_rfl) (by kernel_rfl) (fun _ _ _ h => h) (Or.inl ⟨by rfl, ?_⟩) (by assumption) ?_
  rotate_left
  · (intro w hSw; (try dsimp only at hSw); go_simp; (try with_reducible rfl))
  (try simp only [Act.put, List.setIfInBounds_toArray, List.set_cons_zero, List.set_cons_succ])
  refine wpAnyH_take (i := 6) (oi := { dst := some 9, op := _, type := _, pos := _, after := _, guard := _ }) (v := ?_) rfl (by kernel_rfl) (by kernel_rfl) (by kernel_rfl) (fun _ _ _ h => h) (Or.inl ⟨by rfl, ?_⟩) (by assumption) ?_
  rotate_left
  · (intro w hSw; (try dsimp only at hSw); go_simp; (try with_reducible rfl))
  (try simp only [Act.put, List.setIfInBounds_toArray, List.set_cons_zero, List.set_cons_succ])
  refine wpAnyH_take (i := 8) (oi := { dst := some 11, op := _, type := _, pos := _, after := _, guard := _ }) (v := ?_) rfl (by kernel_rfl) (by kernel_rfl) (by kernel_rfl) (fun _ _ _ h => h) (Or.inl ⟨by rfl, ?_⟩) (by assumption) ?_
  rotate_left
  · (intro w hSw; (try dsimp only at hSw); go_simp; (try with_reducible rfl))
  (try simp only [Act.put, List.setIfInBounds_toArray, List.set_cons_zero, List.set_cons_succ])
  refine wpAnyH_take (i := 9) (oi := { dst := some 12, op := _, type := _, pos := _, after := _, guard := _ }) (v := ?_) rfl (by kernel_rfl) (by kernel_rfl) (by kernel_rfl) (fun _ _ _ h => h) (Or.inl ⟨by rfl, ?_⟩) (by assumption) ?_
  rotate_left
  · (intro w hSw; (try dsimp only at hSw); go_simp; (try with_reducible rfl))
  (try simp only [Act.put, List.setIfInBounds_toArray, List.set_cons_zero, List.set_cons_succ])
  refine wpAnyH_ready (rs := [4]) (by kernel_rfl) (by simp) ?_
  refine AllReadyH.cons (o := { dst := some 7, op := _, type := _, pos := _, after := _, guard := _ }) rfl (fun K hK => ?_) AllReadyH.nil
  go_simp
  refine (HF.out _ (HW.out.trans hE)).mono ?_; rintro e w1 ⟨A2, c2, rfl, hf2, hk2, hb1, hown2⟩; replace hf2 := Lib.hid (⟨hf2, own_far hown2⟩ : _ ∧ _); replace hb1 := hE.trans hb1; clear hE; have hE := hb1; clear hb1; have Hk2 := Lib.hid hk2; clear hk2
  try go_wp2_with fail
  refine hK.out _ _ ?_ (fun hHeld => ?_)
  · (try dsimp only); exact HC.out _ hE
  clear hK K
  (try simp only [Act.put, List.setIfInBounds_toArray, List.set_cons_zero, List.set_cons_succ])
  refine wpAnyH_ready (rs := [7]) (by kernel_rfl) (by simp) ?_
  refine AllReadyH.cons (o := { dst := some 10, op := _, type := _, pos := _, after := _, guard := _ }) rfl (fun K hK => ?_) AllReadyH.nil
  go_simp
  refine (law13_Times se re ag _).mono ?_; rintro e w2 ⟨rfl, hb2⟩; replace hf2 := Lib.hid (⟨hf2.out.1.ext hb2, hf2.out.2⟩ : _ ∧ _); replace hE := hE.trans hb2; clear hb2
  try go_wp2_with fail
  refine hK.out _ _ ?_ (fun hHeld => ?_)
  · (try dsimp only); exact HC.out _ hE
  clear hK K
  (try simp only [Act.put, List.setIfInBounds_toArray, List.set_cons_zero, List.set_cons_succ])
  refine wpAnyH_take (i := 10) (oi := { dst := some 13, op := _, type := _, pos := _, after := _, guard := _ }) (v := ?_) rfl (by kernel_rfl) (by kernel_rfl) (by kernel_rfl) (fun _ _ _ h => h) (Or.inl ⟨by rfl, ?_⟩) (by assumption) ?_
  rotate_left
  · (intro w hSw; (try dsimp only at hSw); go_simp; (try with_reducible rfl))
  (try simp only [Act.put, List.setIfInBounds_toArray, List.set_cons_zero, List.set_cons_succ])
  refine wpAnyH_ready (rs := [11]) (by kernel_rfl) (by simp) ?_
  refine AllReadyH.cons (o := { dst := none, op := _, type := _, pos := _, after := _, guard := _ }) rfl (fun K hK => ?_) AllReadyH.nil
  have z0 := (HZ.out.ext hE).cell 0; have z1 := (HZ.out.ext hE).cell 1; have z2 := (HZ.out.ext hE).cell 2; have z3 := (HZ.out.ext hE).cell 3; have z4 := (HZ.out.ext hE).cell 4; have z5 := (HZ.out.ext hE).cell 5; have zf := (HZ.out.ext hE).frozen
  go_simp
  skip
  try go_wp2_with fail
  refine hK.out _ _ ?_ (fun hHeld => ?_)
  · (try dsimp only); (have hX := (((((((HB.out.ext hE).far (p := ⟨b + 1, 0, none⟩) hne (.int .i64 st)).far (p := ⟨b + 1, 1, none⟩) hne (.slice A2 n c2)).far (p := ⟨b + 1, 2, none⟩) hne (.int .i64 se)).far (p := ⟨b + 1, 3, none⟩) hne (.int .i64 re)).far (p := ⟨b + 1, 4, none⟩) hne (.int .i64 ag)).far (p := ⟨b + 1, 5, none⟩) hne (.bool hv))); exact ⟨hX.cell 0, hX.cell 1, hX.cell 2, hX.cell 3, hX.cell 4, hX.cell 5⟩
  clear hK K
  (try simp only [Act.put, List.setIfInBounds_toArray, List.set_cons_zero, List.set_cons_succ])
  refine wpAnyH_done (by kernel_rfl) ?_ _
  have hY := (((((((HZ.out.ext hE).set_ 0 (.int .i64 st)).set_ 1 (.slice A2 n c2)).set_ 2 (.int .i64 se)).set_ 3 (.int .i64 re)).set_ 4 (.int .i64 ag)).set_ 5 (.bool hv))
  have hG := (((((((ExtB.refl (b + 1) w2).set_ 0 (.int .i64 st)).set_ 1 (.slice A2 n c2)).set_ 2 (.int .i64 se)).set_ 3 (.int .i64 re)).set_ 4 (.int .i64 ag)).set_ 5 (.bool hv))
  have hF := (HW.out.trans hE).growB hG (by omega)
  have hR := Rd.growB hf2.out.1 hG (fun a ha => by
    have h1 := hf2.out.2 a ha
    have h2 := HZ.out.lt
    have h3 : W0.drew.heap.size = W0.heap.size := rfl
    omega)
  clear hG
  generalize ((((((w2.setCell ⟨b + 1, 0, none⟩ (.int .i64 st)).setCell ⟨b + 1, 1, none⟩ (.slice A2 n c2)).setCell ⟨b + 1, 2, none⟩ (.int .i64 se)).setCell ⟨b + 1, 3, none⟩ (.int .i64 re)).setCell ⟨b + 1, 4, none⟩ (.int .i64 ag)).setCell ⟨b + 1, 5, none⟩ (.bool hv)) = WF at *
  have y0 : WF.cell? ⟨b + 1, 0, none⟩ = some (.int .i64 st) := hY.cell 0
  have y1 : WF.cell? ⟨b + 1, 1, none⟩ = some (.slice A2 n c2) := hY.cell 1
  have y2 : WF.cell? ⟨b + 1, 2, none⟩ = some (.int .i64 se) := hY.cell 2
  have y3 : WF.cell? ⟨b + 1, 3, none⟩ = some (.int .i64 re) := hY.cell 3
  have y4 : WF.cell? ⟨b + 1, 4, none⟩ = some (.int .i64 ag) := hY.cell 4
  have y5 : WF.cell? ⟨b + 1, 5, none⟩ = some (.bool hv) := hY.cell 5
  go_wp2_with fail
  exact bodyPost_ret (v := .agg #[.int .i64 st, .slice A2 n c2, .int .i64 se, .int .i64 re, .int .i64 ag, .bool hv]) (by simp [results, Tryz.results8, go_sem, y0, y1, y2, y3, y4, y5]) rfl ⟨A2, c2, rfl, hR, Hk2.out, hF, fun a ha => by
    have h1 := hf2.out.2 a ha
    have h2 := HW.out.size
    have h3 : W0.drew.heap.size = W0.heap.size := rfl
    omega⟩

def aw17 : List Fd := [(ccN, ⟨#[109, 97, 120, 45, 97, 103, 101, 61, 49, 48, 44, 32, 115, 116, 97, 108, 101, 45, 119, 104, 105, 108, 101, 45, 114, 101, 118, 97, 108, 105, 100, 97, 116, 101, 61, 53]⟩)]
def aw17s : Sd := ⟨200, aw17, ⟨0, 0, -1⟩, true⟩
theorem aw17_1 : jdS aw17s noneD 9999 0 = 1 := by decide +kernel
theorem aw17_2 : jdS aw17s noneD 10000 0 = 2 := by decide +kernel
theorem aw17_3 : jdS aw17s noneD 15000 0 = 4 := by decide +kernel
theorem aw17_sum : sumF aw17 = 49 := by decide +kernel
set_option maxHeartbeats 4000000 in
set_option maxRecDepth 100000 in
theorem law17_awake (w : World) (hg : GlH w) (hgl : Gl w) : Calls Tryz.prog 6 #[] w fun e w' => e = .returned (.bool true) ∧ Ext w w' := by
  have hE0 := (Ext.refl w).alloc (.cells (fldCells aw17).toArray 51)
  have hr : RdF (w.alloc (.cells (fldCells aw17).toArray 51)) (some ⟨w.heap.size, 0, none⟩) 1 aw17 := Rd.lit w _ _ rfl 2 1 rfl
  have hJ := fun (now : Int) w' (h : Ext (w.alloc (.cells (fldCells aw17).toArray 51)) w') => policy_Judge 200 (some ⟨w.heap.size, 0, none⟩) 1 1 aw17 0 0 (-1) true noneD now 0 w' (hr.ext h) (by decide) ((bsz_of_sumF _).mono (by rw [aw17_sum]; decide)) ((hg.ext hE0).ext h) (by rw [aw17_sum]; decide) ((hgl.ext hE0).ext h)
  have HJ1 := Lib.hid (fun w' h => by have := hJ 9999 w' h; rw [show (⟨200, aw17, ⟨0, 0, -1⟩, true⟩ : Sd) = aw17s from rfl, aw17_1] at this; exact this)
  have HJ2 := Lib.hid (fun w' h => by have := hJ 10000 w' h; rw [show (⟨200, aw17, ⟨0, 0, -1⟩, true⟩ : Sd) = aw17s from rfl, aw17_2] at this; exact this)
  have HJ3 := Lib.hid (fun w' h => by have := hJ 15000 w' h; rw [show (⟨200, aw17, ⟨0, 0, -1⟩, true⟩ : Sd) = aw17s from rfl, aw17_3] at this; exact this)
  have HE := Lib.hid hE0
  have HBs := Lib.hid (show Blk ((w.alloc (.cells (fldCells aw17).toArray 51)).alloc (.cells #[.int .i64 200, .slice (some ⟨w.heap.size, 0, none⟩) 1 1, .int .i64 0, .int .i64 0, .int .i64 (-1), .bool true] 38)) (w.heap.size + 1) 38 #[.int .i64 200, .slice (some ⟨w.heap.size, 0, none⟩) 1 1, .int .i64 0, .int .i64 0, .int .i64 (-1), .bool true] by
    have h := Blk.new (w.alloc (.cells (fldCells aw17).toArray 51)) 38 #[.int .i64 200, .slice (some ⟨w.heap.size, 0, none⟩) 1 1, .int .i64 0, .int .i64 0, .int .i64 (-1), .bool true]
    rw [World.size_alloc] at h; exact h)
  clear hJ hr hE0
  go_enter Tryz.func6, Tryz.ntmps6
  go_wp2_with fail
  have HE0 := Lib.hid ((Ext.refl (w.alloc (.cells (fldCells aw17).toArray 51))).alloc (.cells #[.int .i64 200, .slice (some ⟨w.heap.size, 0, none⟩) 1 1, .int .i64 0, .int .i64 0, .int .i64 (-1), .bool true] 38))
  refine (dir_None _).mono ?_; rintro e w1 ⟨rfl, hb1⟩
  have HB1 := Lib.hid (HBs.out.ext hb1)
  have HE1 := Lib.hid (HE0.out.trans hb1)
  clear hb1
  go_wp2_with (first
    | (refine wpList_storeB rfl 40 (.tmp 2) (.tmp 7) rfl rfl w1.heap.size _ rfl rfl 40 _ (Blk.new w1 _ _) infoDp rfl (dArr_one noneD) ?_; intro w2 hB2 hx2; have hE2 := (HE1.out.alloc (.cells (dArr zeroD) 40)).growB hx2 HE1.out.size; have hb2 := ((Ext.refl w1).alloc (.cells (dArr zeroD) 40)).growB hx2 (Nat.le_refl _); have c0 := (HB1.out.ext hb2).cell 0; have c1 := (HB1.out.ext hb2).cell 1; have c2 := (HB1.out.ext hb2).cell 2; have c3 := (HB1.out.ext hb2).cell 3; have c4 := (HB1.out.ext hb2).cell 4; have c5 := (HB1.out.ext hb2).cell 5; have HE2 := Lib.hid hE2; have HX2 := Lib.hid hb2; have HB2 := Lib.hid hB2; clear hE2 hb2 hB2 hx2)
    | (refine wpList_loadB rfl 40 (.tmp 2) rfl w1.heap.size rfl 40 _ HB2.out _ Tryz.underlying40 infoDp ?_))
  refine (HJ1.out _ HE2.out).mono ?_; rintro e w3 ⟨rfl, hb3⟩
  have HE3 := Lib.hid (HE2.out.trans hb3)
  have HB3 := Lib.hid (HB2.out.ext hb3)
  replace c0 := hb3.cell c0; replace c1 := hb3.cell c1; replace c2 := hb3.cell c2; replace c3 := hb3.cell c3; replace c4 := hb3.cell c4; replace c5 := hb3.cell c5
  go_wp2_with (first
    | (refine wpList_loadBG (by rfl) 40 (.tmp 2) rfl w1.heap.size rfl 40 _ HB3.out _ Tryz.underlying40 infoDp ?_))
  refine (HJ2.out _ HE3.out).mono ?_; rintro e w4 ⟨rfl, hb4⟩
  have HE4 := Lib.hid (HE3.out.trans hb4)
  have HB4 := Lib.hid (HB3.out.ext hb4)
  replace c0 := hb4.cell c0; replace c1 := hb4.cell c1; replace c2 := hb4.cell c2; replace c3 := hb4.cell c3; replace c4 := hb4.cell c4; replace c5 := hb4.cell c5
  go_wp2_with (first
    | (refine wpList_loadBG (by rfl) 40 (.tmp 2) rfl w1.heap.size rfl 40 _ HB4.out _ Tryz.underlying40 infoDp ?_))
  refine (HJ3.out _ HE4.out).mono ?_; rintro e w5 ⟨rfl, hb5⟩
  go_wp2_with fail
  go_ret
  exact ⟨rfl, HE.out.trans (HE4.out.trans hb5)⟩
end Go.Proofs.YtocniclkooiggaaGreatDoor

namespace Go.Proofs.YtocniclkooiggaaGreatDoor
open Go.RowKit

theorem bsz14_of_sumF : ∀ (fs : List Fd), Bsz (sumF fs) fs
  | [] => fun f hf => by cases hf
  | x :: l => fun f hf => by
    have hs : sumF (x :: l) = x.1.size + x.2.size + sumF l := by simp [sumF]
    rcases List.mem_cons.1 hf with rfl | hf
    · omega
    · have := bsz14_of_sumF l f hf
      omega
theorem sumF_app14 (fs gs : List Fd) : sumF (fs ++ gs) = sumF fs + sumF gs := by simp [sumF]
/-- Are there more bytes than the statements use? -/
def lg14 (fs : List Fd) : Bool := decide (4000 < 2 * fs.length + sumF fs)
def aw14 : List Fd := [(ccN, ⟨#[109, 97, 120, 45, 97, 103, 101, 61, 54, 48, 44, 32, 115, 45, 109, 97, 120, 97, 103, 101, 61, 49, 48]⟩)]
theorem aw14_of : ofS 200 aw14 = (10000, 1) := by decide +kernel
theorem aw14_sum : sumF aw14 = 36 := by decide +kernel
theorem lg_no14 {fs : List Fd} (h : lg14 fs = false) : 2 * fs.length + sumF fs ≤ 4000 := by
  unfold lg14 at h
  have := of_decide_eq_false h
  omega

def wdL4 : List ByteArray := [mrW, ncW, smW, prW]
theorem strict_all (fs : List Fd) {k : Nat} (h : k < 4) : alwS (fs ++ [(lowS ccN, wdL4[k]'h)]) = (0, 0) := by
  have : k = 0 ∨ k = 1 ∨ k = 2 ∨ k = 3 := by omega
  rcases this with rfl | rfl | rfl | rfl
  · exact strict_mr fs
  · exact strict_nc fs
  · exact strict_sm fs
  · exact strict_pr fs
theorem wd_small {k : Nat} (h : k < 4) : (wdL4[k]'h).size ≤ 100 := by
  have : k = 0 ∨ k = 1 ∨ k = 2 ∨ k = 3 := by omega
  rcases this with rfl | rfl | rfl | rfl
  · show mrW.size ≤ 100; decide
  · show ncW.size ≤ 100; decide
  · show smW.size ≤ 100; decide
  · show prW.size ≤ 100; decide
end Go.Proofs.YtocniclkooiggaaGreatDoor

namespace Go.Proofs.YtocniclkooiggaaGreatDoor
open Go.RowKit

set_option maxHeartbeats 4000000 in
set_option maxRecDepth 100000 in
theorem ref_Directives (A : Option Addr) (n c : Nat) (fs : List Fd) (w : World) (hf : RdF w A n fs) (hn : n ≤ 1073741824) (hsz : Bsz 1048576 fs) :
    Calls Tryz.prog 22 #[.slice A n c] w fun e w' => e = .returned (.agg (dArr (ccD fs))) ∧ Ext w w' := by
  have HA := Lib.hid (fun w' (h : Ext w w') => ref_All A n c fs ccN w' (hf.ext h) hn (by decide) (fun f hf => Nat.le_trans (hsz f hf).1 (by decide)))
  have Hv := Lib.hid (bsz_vals (name := ccN) hsz)
  have hln : (allS fs ccN).length ≤ n := by
    have := allS_len fs ccN n
    rw [List.take_of_length_le (by rw [hf.lenF]; exact Nat.le_refl _)] at this
    exact this
  have Hln := Lib.hid hln; clear hln
  have Hc := Lib.hid (show ccD fs = dirS (allS fs ccN) from rfl)
  generalize ccD fs = D at *
  generalize allS fs ccN = L at *
  have HB0 := Lib.hid (Blk.new w 28 (dArr zeroD))
  go_enter Tryz.func22, Tryz.ntmps22
  go_wp2_with fail
  refine (HA.out _ ((Ext.refl w).alloc _)).mono ?_; rintro e w1 ⟨A1, n1, c1, rfl, hr1, hc1, hb1⟩
  have h1 := ((Ext.refl w).alloc (.cells (dArr zeroD) 28)).trans hb1
  have HB1 := Lib.hid (HB0.out.ext hb1)
  have hn1 : n1 ≤ 1073741824 := by have := hr1.lenS; have := Hln.out; omega
  go_wp2_with fail
  refine (ref_Parse A1 n1 c1 L _ hr1 hn1 Hv.out).mono ?_; rintro e w2 ⟨rfl, hb2⟩
  rw [← Hc.out]
  have HB2 := Lib.hid (HB1.out.ext hb2)
  go_wp2_with (first | (refine wpList_storeB rfl 28 (.tmp 2) (.tmp 5) rfl rfl w.heap.size _ rfl rfl 28 _ HB2.out infoD rfl (dArr_one D) ?_; intro w9 hB9 hx9))
  exact bodyPost_ret (v := .agg (dArr D)) (results_cell_row rfl _ _ w.heap.size 28 _ (0, 0) _ rfl hB9 Tryz.underlying28 rfl infoD) rfl ⟨rfl, (h1.trans hb2).growB hx9 (Nat.le_refl _)⟩

set_option maxHeartbeats 8000000 in
set_option maxRecDepth 100000 in
theorem ref_Allowance (A : Option Addr) (n c : Nat) (fs : List Fd) (w : World) (hf : RdF w A n fs) (hn : n ≤ 1073741824) (hsz : Bsz 1048576 fs) :
    Calls Tryz.prog 24 #[.slice A n c] w fun e w' => e = .returned (pairV (alwS fs)) ∧ Ext w w' := by
  have HP := Lib.hid (ref_Directives A n c fs w hf hn hsz)
  have Ho := Lib.hid (show alwS fs = if (ccD fs).b4 || (ccD fs).b1 || decide (0 ≤ (ccD fs).n1) then ((0, 0) : Int × Int) else (1000 * max 0 (ccD fs).n2, 1000 * max 0 (ccD fs).n3) from rfl)
  have hbd := ccD_bd fs
  generalize alwS fs = O at *
  generalize ccD fs = D at *
  obtain ⟨_, ⟨u3, u4⟩, ⟨u5, u6⟩, ⟨u7, u8⟩, _, _⟩ := hbd
  have hE1 : ∀ w1 wd, Ext w w1 → ExtB w1.heap.size (w1.alloc (.cells (dArr zeroD) 28)) wd → Ext w wd := fun w1 wd h k => (h.alloc _).growB k h.size
  have HE1 := Lib.hid hE1; clear hE1
  go_enter Tryz.func24, Tryz.ntmps24
  go_wp2_with fail
  refine HP.out.mono ?_; rintro e w1 ⟨rfl, hb1⟩
  cases hb4 : D.b4
  rotate_left
  · have HL := Lib.hid (show Value.tuple #[.int .i64 0, .int .i64 0] = pairV O by rw [Ho.out, hb4]; rfl)
    go_wp2_with (first | (refine wpList_storeB rfl 28 (.tmp 4) (.tmp 6) rfl rfl w1.heap.size _ rfl rfl 28 _ (Blk.new w1 _ _) infoD rfl (dArr_one D) ?_; intro wd hBd hxd; have d1 : wd.cell? ⟨w1.heap.size, 1, none⟩ = some (.bool D.b1) := hBd.cell 1; have d4 : wd.cell? ⟨w1.heap.size, 4, none⟩ = some (.bool D.b4) := hBd.cell 4; have d6 : wd.cell? ⟨w1.heap.size, 6, none⟩ = some (.int .i64 D.n0) := hBd.cell 6; have d7 : wd.cell? ⟨w1.heap.size, 7, none⟩ = some (.int .i64 D.n1) := hBd.cell 7; have d8 : wd.cell? ⟨w1.heap.size, 8, none⟩ = some (.int .i64 D.n2) := hBd.cell 8; have d9 : wd.cell? ⟨w1.heap.size, 9, none⟩ = some (.int .i64 D.n3) := hBd.cell 9))
    go_ret2
    exact ⟨ret_v HL.out, HE1.out _ _ hb1 hxd⟩
  cases hb1' : D.b1
  rotate_left
  · have HL := Lib.hid (show Value.tuple #[.int .i64 0, .int .i64 0] = pairV O by rw [Ho.out, hb4, hb1']; rfl)
    go_wp2_with (first | (refine wpList_storeB rfl 28 (.tmp 4) (.tmp 6) rfl rfl w1.heap.size _ rfl rfl 28 _ (Blk.new w1 _ _) infoD rfl (dArr_one D) ?_; intro wd hBd hxd; have d1 : wd.cell? ⟨w1.heap.size, 1, none⟩ = some (.bool D.b1) := hBd.cell 1; have d4 : wd.cell? ⟨w1.heap.size, 4, none⟩ = some (.bool D.b4) := hBd.cell 4; have d6 : wd.cell? ⟨w1.heap.size, 6, none⟩ = some (.int .i64 D.n0) := hBd.cell 6; have d7 : wd.cell? ⟨w1.heap.size, 7, none⟩ = some (.int .i64 D.n1) := hBd.cell 7; have d8 : wd.cell? ⟨w1.heap.size, 8, none⟩ = some (.int .i64 D.n2) := hBd.cell 8; have d9 : wd.cell? ⟨w1.heap.size, 9, none⟩ = some (.int .i64 D.n3) := hBd.cell 9))
    go_ret2
    exact ⟨ret_v HL.out, HE1.out _ _ hb1 hxd⟩
  by_cases g1 : 0 ≤ D.n1
  · have HL := Lib.hid (show Value.tuple #[.int .i64 0, .int .i64 0] = pairV O by rw [Ho.out, hb4, hb1', decide_eq_true g1]; rfl)
    go_wp2_with (first | (refine wpList_storeB rfl 28 (.tmp 4) (.tmp 6) rfl rfl w1.heap.size _ rfl rfl 28 _ (Blk.new w1 _ _) infoD rfl (dArr_one D) ?_; intro wd hBd hxd; have d1 : wd.cell? ⟨w1.heap.size, 1, none⟩ = some (.bool D.b1) := hBd.cell 1; have d4 : wd.cell? ⟨w1.heap.size, 4, none⟩ = some (.bool D.b4) := hBd.cell 4; have d6 : wd.cell? ⟨w1.heap.size, 6, none⟩ = some (.int .i64 D.n0) := hBd.cell 6; have d7 : wd.cell? ⟨w1.heap.size, 7, none⟩ = some (.int .i64 D.n1) := hBd.cell 7; have d8 : wd.cell? ⟨w1.heap.size, 8, none⟩ = some (.int .i64 D.n2) := hBd.cell 8; have d9 : wd.cell? ⟨w1.heap.size, 9, none⟩ = some (.int .i64 D.n3) := hBd.cell 9))
    go_ret2
    exact ⟨ret_v HL.out, HE1.out _ _ hb1 hxd⟩
  · have HL := Lib.hid (show Value.tuple #[.int .i64 (1000 * max 0 D.n2), .int .i64 (1000 * max 0 D.n3)] = pairV O by rw [Ho.out, hb4, hb1', decide_eq_false g1]; rfl)
    have m2 : 0 ≤ 1000 * max 0 D.n2 := by omega
    have m3 : 1000 * max 0 D.n2 ≤ 2147483647000 := by omega
    have m4 : 0 ≤ 1000 * max 0 D.n3 := by omega
    have m5 : 1000 * max 0 D.n3 ≤ 2147483647000 := by omega
    have w2' : IntKind.i64.wrap (1000 * max 0 D.n2) = 1000 * max 0 D.n2 := IntWalk.i64_in _ (by omega)
    have w3' : IntKind.i64.wrap (1000 * max 0 D.n3) = 1000 * max 0 D.n3 := IntWalk.i64_in _ (by omega)
    go_wp2_with (first | (refine wpList_storeB rfl 28 (.tmp 4) (.tmp 6) rfl rfl w1.heap.size _ rfl rfl 28 _ (Blk.new w1 _ _) infoD rfl (dArr_one D) ?_; intro wd hBd hxd; have d1 : wd.cell? ⟨w1.heap.size, 1, none⟩ = some (.bool D.b1) := hBd.cell 1; have d4 : wd.cell? ⟨w1.heap.size, 4, none⟩ = some (.bool D.b4) := hBd.cell 4; have d6 : wd.cell? ⟨w1.heap.size, 6, none⟩ = some (.int .i64 D.n0) := hBd.cell 6; have d7 : wd.cell? ⟨w1.heap.size, 7, none⟩ = some (.int .i64 D.n1) := hBd.cell 7; have d8 : wd.cell? ⟨w1.heap.size, 8, none⟩ = some (.int .i64 D.n2) := hBd.cell 8; have d9 : wd.cell? ⟨w1.heap.size, 9, none⟩ = some (.int .i64 D.n3) := hBd.cell 9))
    go_region
    all_goals (try go_wp2_with fail)
    all_goals
      go_ret2
      exact ⟨ret_v HL.out, (HE1.out _ _ hb1 hxd).drew⟩

end Go.Proofs.YtocniclkooiggaaGreatDoor

namespace Go.Proofs.YtocniclkooiggaaGreatDoor
open Go.RowKit

set_option maxHeartbeats 1000000 in
theorem rd_leap (y : Int) (w : World) (h0 : 0 ≤ y) (h1 : y ≤ 1000000) :
    Calls Tryz.prog 97 #[.int .i64 y] w fun e w' => e = .returned (.int .i64 (lp y)) ∧ w' = w := by
  have Hl := Lib.hid (show lpB y = ((y % 4 == 0 && y % 100 != 0) || y % 400 == 0) from rfl)
  have Hp := Lib.hid (show lp y = if lpB y then 1 else 0 from rfl)
  generalize lp y = p at *
  generalize lpB y = b at *
  cases h4 : (y % 4 == 0) <;> cases h100 : (y % 100 == 0) <;> cases h400 : (y % 400 == 0)
  all_goals
    have hn : (y % 100 != 0) = !(y % 100 == 0) := rfl
    rw [h100] at hn
    rw [h4, hn, h400] at Hl
    simp only [Bool.not_false, Bool.not_true] at hn
    go_enter Tryz.func97, Tryz.ntmps97
    go_wp2_with fail
    go_ret
    exact ⟨ret_i (by rw [Hp.out, Hl.out]; rfl), rfl⟩

set_option maxHeartbeats 1000000 in
theorem rd_length (y : Int) (m : Nat) (w : World) (h0 : 0 ≤ y) (h1 : y ≤ 1000000) (hm1 : m ≤ 1000) :
    Calls Tryz.prog 96 #[.int .i64 y, .int .i64 (m : Nat)] w fun e w' => e = .returned (.int .i64 (ml y m)) ∧ w' = w := by
  have hlp := lp_01 y
  by_cases h2 : m = 2
  · have Hv := Lib.hid (show 28 + lp y = ml y m by rw [h2]; rfl)
    subst h2
    go_enter Tryz.func96, Tryz.ntmps96
    go_wp2_with fail
    refine (rd_leap y _ h0 h1).mono ?_; rintro e w1 ⟨rfl, rfl⟩
    go_wp2_with fail
    go_ret
    exact ⟨ret_i Hv.out, rfl⟩
  · by_cases h4 : m = 4 ∨ m = 6 ∨ m = 9 ∨ m = 11
    · have Hv := Lib.hid (show (30 : Int) = ml y m by unfold ml; rw [if_neg (by omega), if_pos (by omega)])
      generalize ml y m = r at *
      rcases h4 with h | h | h | h
      all_goals
        subst h
        go_enter Tryz.func96, Tryz.ntmps96
        go_wp2_with fail
        go_ret
        exact ⟨ret_i Hv.out, rfl⟩
    · have Hv := Lib.hid (show (31 : Int) = ml y m by unfold ml; rw [if_neg (by omega), if_neg (by omega)])
      generalize ml y m = r at *
      have z2 : ((m : Int) == 2) = false := by rw [beq_eq_false_iff_ne]; omega
      have z4 : ((m : Int) == 4) = false := by rw [beq_eq_false_iff_ne]; omega
      have z6 : ((m : Int) == 6) = false := by rw [beq_eq_false_iff_ne]; omega
      have z9 : ((m : Int) == 9) = false := by rw [beq_eq_false_iff_ne]; omega
      have z11 : ((m : Int) == 11) = false := by rw [beq_eq_false_iff_ne]; omega
      clear h4 h2
      go_enter Tryz.func96, Tryz.ntmps96
      go_wp2_with fail
      go_ret
      exact ⟨ret_i Hv.out, rfl⟩

def day2V (y : Int) (m : Nat) (d : Int) : Value := if okD y m d then .tuple #[.int .i64 (dayN y m d), .bool true] else .tuple #[.int .i64 0, .bool false]
theorem day2V_yes {y : Int} {m : Nat} {d : Int} (h : okD y m d) : day2V y m d = .tuple #[.int .i64 (dayN y m d), .bool true] := if_pos h
theorem day2V_no {y : Int} {m : Nat} {d : Int} (h : ¬ okD y m d) : day2V y m d = .tuple #[.int .i64 0, .bool false] := if_neg h

set_option maxHeartbeats 1000000 in
theorem rd_Day (y : Int) (m : Nat) (d : Int) (w : World) (h0 : -1 ≤ y) (h1 : y ≤ 9999) (hm : m ≤ 13) (hd0 : -1 ≤ d) (hd1 : d ≤ 99) :
    Calls Tryz.prog 78 #[.int .i64 y, .int .i64 (m : Nat), .int .i64 d] w fun e w' => e = .returned (day2V y m d) ∧ w' = w := by
  have Hno := Lib.hid (@day2V_no y m d)
  have Hyes := Lib.hid (@day2V_yes y m d)
  by_cases a1 : y < 1970
  · have Hn := Lib.hid (Hno.out (fun h => by have := h.1; omega))
    go_enter Tryz.func78, Tryz.ntmps78
    go_wp2_with fail
    all_goals (go_ret2; exact ⟨ret_v Hn.out.symm, rfl⟩)
  have hle : ¬ (9999 : Int) < y := by omega
  by_cases a2 : m < 1
  · have Hn := Lib.hid (Hno.out (fun h => by have := h.2.2.1; omega))
    obtain rfl : m = 0 := by omega
    go_enter Tryz.func78, Tryz.ntmps78
    go_wp2_with fail
    all_goals (go_ret2; exact ⟨ret_v Hn.out.symm, rfl⟩)
  have hm1 : ¬ (m : Int) < 1 := by omega
  by_cases a5 : 12 < m
  · have Hn := Lib.hid (Hno.out (fun h => by have := h.2.2.2.1; omega))
    obtain rfl : m = 13 := by omega
    go_enter Tryz.func78, Tryz.ntmps78
    go_wp2_with fail
    all_goals (go_ret2; exact ⟨ret_v Hn.out.symm, rfl⟩)
  have hm2 : ¬ (12 : Int) < (m : Int) := by omega
  by_cases a3 : d < 1
  · have Hn := Lib.hid (Hno.out (fun h => by have := h.2.2.2.2.1; omega))
    go_enter Tryz.func78, Tryz.ntmps78
    go_wp2_with fail
    all_goals (go_ret2; exact ⟨ret_v Hn.out.symm, rfl⟩)
  have hmo := Lib.hid (rd_length y m w (by omega) (by omega) (by omega))
  have hml := ml_bd y m
  by_cases a4 : ml y m < d
  · have Hn := Lib.hid (Hno.out (fun h => by have := h.2.2.2.2.2; omega))
    go_enter Tryz.func78, Tryz.ntmps78
    go_wp2_with fail
    refine hmo.out.mono ?_; rintro e w1 ⟨rfl, rfl⟩
    go_wp2_with fail
    all_goals (go_ret2; exact ⟨ret_v Hn.out.symm, rfl⟩)
  · have Hn := Lib.hid (Hyes.out ⟨by omega, by omega, by omega, by omega, by omega, by omega⟩)
    have hbb := bef_bd (y := y) (by omega) (by omega)
    go_enter Tryz.func78, Tryz.ntmps78
    go_wp2_with fail
    refine hmo.out.mono ?_; rintro e w1 ⟨rfl, rfl⟩
    go_wp2_with fail
    go_loopw [8, 9] (fun n i wr => ∃ z : Int, 1970 ≤ z ∧ z ≤ y ∧ n = .int .i64 (d - 1 + bef z) ∧ i = .int .i64 z ∧ wr = w1) (fun _ i _ => (y - intOf i).toNat)
    case atStart => exact ⟨1970, Int.le_refl _, by omega, by rw [bef_1970, Int.add_zero], rfl, rfl⟩
    case round =>
      obtain ⟨z, hz0, hz1, rfl, rfl, rfl⟩ := hrel
      have hbz := bef_bd (y := z) hz0 (by omega)
      by_cases hlt : z < y
      · have Hbs := Lib.hid (bef_succ z (by omega))
        have hlp := lp_01 z
        go_wp2_with fail
        refine (rd_leap z _ (by omega) (by omega)).mono ?_; rintro e w3 ⟨rfl, rfl⟩
        go_wp2_with fail
        go_roundw
        case rel => exact ⟨z + 1, by omega, by omega, by rw [Hbs.out]; go_num, by go_num, trivial⟩
        case measure => simp [intOf]; omega
      · obtain rfl : z = y := by omega
        go_wp2_with fail
        go_loopw [8, 10] (fun n i wr' => ∃ k : Nat, 1 ≤ k ∧ k ≤ m ∧ n = .int .i64 (d - 1 + bef z + cum z k) ∧ i = .int .i64 (k : Nat) ∧ wr' = wr) (fun _ i _ => m - (intOf i).toNat)
        case atStart => exact ⟨1, Nat.le_refl _, by omega, by rw [cum_1, Int.add_zero], rfl, rfl⟩
        case round =>
          obtain ⟨k, hk1, hk, rfl, rfl, rfl⟩ := hrel
          have hcb := cum_bd z hk1 (by omega)
          by_cases hlt : k < m
          · have Hcs := Lib.hid (cum_succ z k (by omega))
            have hmb := ml_bd z k
            go_wp2_with fail
            refine (rd_length z k _ (by omega) (by omega) (by omega)).mono ?_; rintro e w3 ⟨rfl, rfl⟩
            go_wp2_with fail
            go_roundw
            case rel => exact ⟨k + 1, by omega, by omega, by rw [Hcs.out]; go_num, by go_num, trivial⟩
            case measure => simp [intOf]; omega
          · obtain rfl : k = m := by omega
            have Hz := Lib.hid (show Value.tuple #[.int .i64 (d - 1 + bef z + cum z k), .bool true] = day2V z k d by rw [Hn.out]; unfold dayN; rw [show d - 1 + bef z + cum z k = bef z + cum z k + d - 1 by omega])
            go_wp2_with fail
            go_ret2
            exact ⟨ret_v Hz.out, rfl⟩

def date3V (d : Int) : Value := .tuple #[.int .i64 (yOf d), .int .i64 (mOf d : Nat), .int .i64 (dOf d)]
theorem date3V_of {d y : Int} {m : Nat} {r : Int} (h0 : 0 ≤ d) (h1 : d ≤ 2932896) (hk : okD y m r) (he : dayN y m r = d) : date3V d = .tuple #[.int .i64 y, .int .i64 (m : Nat), .int .i64 r] := by
  obtain ⟨a, b⟩ := date_ok h0 h1
  obtain ⟨e1, e2, e3⟩ := day_one hk a (he.trans b.symm)
  unfold date3V
  rw [← e1, ← e2, ← e3]

set_option maxHeartbeats 1000000 in
theorem rd_Date (d : Int) (w : World) (h0 : 0 ≤ d) (h1 : d ≤ 2932896) :
    Calls Tryz.prog 98 #[.int .i64 d] w fun e w' => e = .returned (date3V d) ∧ w' = w := by
  have Hd := Lib.hid (fun y m r => @date3V_of d y m r)
  go_enter Tryz.func98, Tryz.ntmps98
  go_wp2_with fail
  go_loopw [0, 5] (fun r y wr => ∃ z : Int, 1970 ≤ z ∧ z ≤ 9999 ∧ 0 ≤ d - bef z ∧ r = .int .i64 (d - bef z) ∧ y = .int .i64 z ∧ wr = w) (fun _ y _ => (9999 - intOf y).toNat)
  case atStart => exact ⟨1970, by omega, by omega, by rw [bef_1970]; omega, by rw [bef_1970, Int.sub_zero], rfl, rfl⟩
  case round =>
    obtain ⟨z, hz0, hz1, hzb, rfl, rfl, rfl⟩ := hrel
    have hbz := bef_bd hz0 (by omega)
    have Hbs := Lib.hid (bef_succ z (by omega))
    have hlp := lp_01 z
    by_cases hc : 365 + lp z ≤ d - bef z
    · have hz9 : z < 9999 := by
        by_cases hz9 : z < 9999
        · exact hz9
        · obtain rfl : z = 9999 := by omega
          have a := Hbs.out
          have b : bef (9999 + 1) = 2932897 := bef_10000
          omega
      go_wp2_with fail
      refine (rd_leap z _ (by omega) (by omega)).mono ?_; rintro e w1 ⟨rfl, rfl⟩
      go_wp2_with fail
      refine (rd_leap z _ (by omega) (by omega)).mono ?_; rintro e w2 ⟨rfl, rfl⟩
      go_wp2_with fail
      go_roundw
      case rel => exact ⟨z + 1, by omega, by omega, by rw [Hbs.out]; omega, by rw [Hbs.out]; go_num, by go_num, trivial⟩
      case measure => simp [intOf]; omega
    · go_wp2_with fail
      refine (rd_leap z _ (by omega) (by omega)).mono ?_; rintro e w1 ⟨rfl, rfl⟩
      go_wp2_with fail
      go_loopw [0, 6] (fun r m wr' => ∃ k : Nat, 1 ≤ k ∧ k ≤ 12 ∧ r = .int .i64 (d - bef z - cum z k) ∧ 0 ≤ d - bef z - cum z k ∧ m = .int .i64 (k : Nat) ∧ wr' = w1) (fun _ m _ => 12 - (intOf m).toNat)
      case atStart => exact ⟨1, Nat.le_refl _, by omega, by rw [cum_1, Int.sub_zero], by rw [cum_1]; omega, rfl, rfl⟩
      case round =>
        obtain ⟨k, hk1, hk, rfl, hr0, rfl, rfl⟩ := hrel
        have hcb := cum_bd z hk1 (by omega)
        have hmb := ml_bd z k
        have Hcs := Lib.hid (cum_succ z k (by omega))
        by_cases hge : ml z k ≤ d - bef z - cum z k
        · have hk12 : k < 12 := by
            by_cases h12 : k < 12
            · exact h12
            · obtain rfl : k = 12 := by omega
              have a := Hcs.out
              have b := cum_13 z
              have e : cum z (12 + 1) = cum z 13 := rfl
              omega
          go_wp2_with fail
          refine (rd_length z k _ (by omega) (by omega) (by omega)).mono ?_; rintro e w3 ⟨rfl, rfl⟩
          go_wp2_with fail
          refine (rd_length z k _ (by omega) (by omega) (by omega)).mono ?_; rintro e w4 ⟨rfl, rfl⟩
          go_wp2_with fail
          go_roundw
          case rel => exact ⟨k + 1, by omega, by omega, by rw [Hcs.out]; go_num, by rw [Hcs.out]; omega, by go_num, trivial⟩
          case measure => simp [intOf]; omega
        · have He := Lib.hid (Hd.out z k (d - bef z - cum z k + 1) h0 h1 ⟨hz0, hz1, hk1, hk, by omega, by omega⟩ (by unfold dayN; omega))
          go_wp2_with fail
          refine (rd_length z k _ (by omega) (by omega) (by omega)).mono ?_; rintro e w3 ⟨rfl, rfl⟩
          go_wp2_with fail
          go_ret3
          exact ⟨ret_v He.out.symm, rfl⟩

set_option maxHeartbeats 1000000 in
theorem rd_Weekday (d : Int) (w : World) (h0 : 0 ≤ d) (h1 : d ≤ 1000000000) :
    Calls Tryz.prog 99 #[.int .i64 d] w fun e w' => e = .returned (.int .i64 (wkN d)) ∧ w' = w := by
  go_enter Tryz.func99, Tryz.ntmps99
  go_wp2_with fail
  go_ret
  exact ⟨ret_i (by unfold wkN; omega), rfl⟩
end Go.Proofs.YtocniclkooiggaaGreatDoor

namespace Go.Proofs.YtocniclkooiggaaGreatDoor
open Go.RowKit

def ndg (c : UInt8) : Bool := !dgB c
def numF (n : Int) : List UInt8 → Int
  | [] => n
  | c :: l => numF (10 * n + ((c.toNat : Int) - 48)) l
theorem numF_app : ∀ (l : List UInt8) (n : Int) (c : UInt8), numF n (l ++ [c]) = 10 * numF n l + ((c.toNat : Int) - 48)
  | [], _, _ => rfl
  | _ :: l, _, c => numF_app l _ c
theorem dgB_bd {c : UInt8} (h : dgB c = true) : 48 ≤ (c.toNat : Int) ∧ (c.toNat : Int) ≤ 57 := by
  simp only [dgB, Bool.not_eq_true', Bool.or_eq_false_iff, decide_eq_false_iff_not] at h
  omega
theorem numF_bd : ∀ (l : List UInt8) (n : Int), 0 ≤ n → l.any ndg = false → 0 ≤ numF n l ∧ numF n l < (n + 1) * 10 ^ l.length
  | [], n, h, _ => by simp [numF]; omega
  | c :: l, n, h, ha => by
    simp only [List.any_cons, Bool.or_eq_false_iff, ndg, Bool.not_eq_false'] at ha
    have hc := dgB_bd ha.1
    have := numF_bd l (10 * n + ((c.toNat : Int) - 48)) (by omega) ha.2
    refine ⟨this.1, Int.lt_of_lt_of_le this.2 ?_⟩
    rw [List.length_cons, Int.pow_succ, Int.mul_comm (10 ^ _) 10, ← Int.mul_assoc]
    exact Int.mul_le_mul_of_nonneg_right (by omega) (Int.pow_nonneg (by decide))
def numS (s : ByteArray) : Int := if s.data.toList.any ndg then -1 else numF 0 s.data.toList
theorem tk_step (s : ByteArray) {k : Nat} (h : k < s.size) : s.data.toList.take (k + 1) = s.data.toList.take k ++ [s[k]] := by
  rw [List.take_add_one, List.getElem?_eq_getElem (by simpa using h)]
  rfl
theorem ndg_any {s : ByteArray} {k : Nat} (h : k < s.size) (h2 : ndg s[k] = true) : s.data.toList.any ndg = true := by
  have h2 : ndg s.data[k] = true := h2
  rw [List.any_eq_true]
  exact ⟨s.data[k], by simp, h2⟩
set_option maxHeartbeats 1000000 in
theorem rd_number (s : ByteArray) (w : World) (hs : s.size ≤ 4) :
    Calls Tryz.prog 79 #[.string s] w fun e w' => e = .returned (.int .i64 (numS s)) ∧ w' = w := by
  have Hn0 := Lib.hid (show s.data.toList.any ndg = true → (-1 : Int) = numS s from fun h => by unfold numS; rw [if_pos h])
  have Hn1 := Lib.hid (show s.data.toList.any ndg = false → numF 0 s.data.toList = numS s from fun h => by unfold numS; rw [if_neg (by rw [h]; decide)])
  go_enter Tryz.func79, Tryz.ntmps79
  go_wp2_with fail
  go_loopw [3, 7] (fun n i wr => ∃ k : Nat, k ≤ s.size ∧ n = .int .i64 (numF 0 (s.data.toList.take k)) ∧ (s.data.toList.take k).any ndg = false ∧ i = .int .i64 (k : Nat) ∧ wr = w) (fun _ i _ => s.size - (intOf i).toNat)
  case atStart => exact ⟨0, by omega, rfl, rfl, rfl, rfl⟩
  case round =>
    obtain ⟨k, hk, hn, hall, rfl, rfl⟩ := hrel
    by_cases hlt : k < s.size
    · subst hn
      have hb := numF_bd _ 0 (by omega) hall
      have hp : (10 : Int) ^ (s.data.toList.take k).length ≤ 1000 := by
        rw [List.length_take, Nat.min_eq_left (by simp; omega)]
        have : k = 0 ∨ k = 1 ∨ k = 2 ∨ k = 3 := by omega
        rcases this with h | h | h | h <;> subst h <;> decide
      have hb0 := hb.1
      have hb1 : numF 0 (s.data.toList.take k) ≤ 1000 := by omega
      have Hst := Lib.hid (show ndg s[k] = false → (s.data.toList.take (k + 1)).any ndg = false ∧ numF 0 (s.data.toList.take (k + 1)) = 10 * numF 0 (s.data.toList.take k) + ((s[k].toNat : Int) - 48) from fun h => by
        rw [tk_step s hlt, numF_app, List.any_append, hall]
        exact ⟨by simpa using h, rfl⟩)
      have Hyes := Lib.hid (ndg_any hlt)
      clear hall hb hp
      generalize numF 0 (s.data.toList.take k) = n at *
      have hub := UInt8.toNat_lt s[k]
      by_cases a0 : (s[k].toNat : Int) < 48
      · have Hr := Lib.hid (Hn0.out (Hyes.out (by unfold ndg; rw [dgB_no (Or.inl a0)]; rfl)))
        go_wp2_with fail
        go_ret
        exact ⟨ret_i Hr.out, rfl⟩
      · by_cases a1 : 57 < (s[k].toNat : Int)
        · have Hr := Lib.hid (Hn0.out (Hyes.out (by unfold ndg; rw [dgB_no (Or.inr a1)]; rfl)))
          go_wp2_with fail
          go_ret
          exact ⟨ret_i Hr.out, rfl⟩
        · have Hr := Lib.hid (Hst.out (by unfold ndg; rw [dgB_yes a0 a1]; rfl))
          go_wp2_with fail
          go_roundw
          case rel => exact ⟨k + 1, by omega, by rw [Hr.out.2], Hr.out.1, by go_num, trivial⟩
          case measure => simp [intOf]; omega
    · obtain rfl : k = s.size := by omega
      rw [List.take_of_length_le (by simp)] at hall hn
      rw [Hn1.out hall] at hn
      subst hn
      clear hall
      go_wp2_with fail
      go_ret
      exact ⟨rfl, rfl⟩

def ndK (n : Int) : Nat → Int
  | 0 => n
  | k + 1 => ndK n k / 10
def ouK (n : Int) : Nat → ByteArray
  | 0 => ⟨#[]⟩
  | k + 1 => ⟨#[digU (ndK n k % 10)]⟩ ++ ouK n k
theorem ndK_bd {n : Int} (h0 : 0 ≤ n) (h1 : n ≤ 9999) : ∀ k, 0 ≤ ndK n k ∧ ndK n k ≤ 9999
  | 0 => ⟨h0, h1⟩
  | k + 1 => by
    have := ndK_bd h0 h1 k
    unfold ndK
    omega
theorem ouK_size (n : Int) : ∀ k, (ouK n k).size = k
  | 0 => rfl
  | k + 1 => by
    unfold ouK
    rw [ByteArray.size_append, ouK_size n k]
    show 1 + k = k + 1
    omega
theorem ouK_2 {n : Int} (h0 : 0 ≤ n) (h1 : n ≤ 99) : ouK n 2 = twoS n := by
  have h : n / 10 % 10 = n / 10 := by omega
  have e : ouK n 2 = ⟨#[digU (n / 10 % 10), digU (n % 10)]⟩ := rfl
  rw [e, h]
  rfl
theorem ouK_4 {n : Int} (h0 : 0 ≤ n) (h1 : n ≤ 9999) : ouK n 4 = twoS (n / 100) ++ twoS (n % 100) := by
  have e : ouK n 4 = ⟨#[digU (n / 10 / 10 / 10 % 10), digU (n / 10 / 10 % 10), digU (n / 10 % 10), digU (n % 10)]⟩ := rfl
  have f : twoS (n / 100) ++ twoS (n % 100) = ⟨#[digU (n / 100 / 10), digU (n / 100 % 10), digU (n % 100 / 10), digU (n % 100 % 10)]⟩ := rfl
  rw [e, f, show n / 10 / 10 / 10 % 10 = n / 100 / 10 by omega, show n / 10 / 10 % 10 = n / 100 % 10 by omega, show n / 10 % 10 = n % 100 / 10 by omega, show n % 10 = n % 100 % 10 by omega]
theorem conv_oneR (a : Int) (w : World) : (convert 106 9 (.slice (some ⟨w.heap.size, 0, none⟩) 1 1)).run Tryz.prog (w.alloc (.cells #[.int .u8 a] 5)) =
    .ok (.string ⟨#[UInt8.ofNat a.toNat]⟩) (w.alloc (.cells #[.int .u8 a] 5)) :=
  run_convert_bytes_arg (P := Tryz.prog) _ 106 5 Tryz.underlying106 Tryz.underlying5 w.heap.size 0 1 1 [a] rfl
    (fun i hi => by
      rw [World.cell?_alloc_mark]
      have : i = 0 := by omega
      subst this; rfl) 9 Tryz.underlying9
set_option maxHeartbeats 1000000 in
theorem rd_digits (n : Int) (m : Nat) (w : World) (h0 : 0 ≤ n) (h1 : n ≤ 9999) (hm : m ≤ 4) :
    Calls Tryz.prog 100 #[.int .i64 n, .int .i64 (m : Nat)] w fun e w' => e = .returned (.string (ouK n m)) ∧ Ext w w' := by
  have hcv := conv_oneR
  go_enter Tryz.func100, Tryz.ntmps100
  go_wp2_with fail
  go_loopw [0, 5, 7] (fun r o i wr => ∃ k : Nat, k ≤ m ∧ r = .int .i64 (ndK n k) ∧ o = .string (ouK n k) ∧ i = .int .i64 (k : Nat) ∧ Ext w wr) (fun _ _ i _ => m - (intOf i).toNat)
  case atStart => exact ⟨0, by omega, rfl, rfl, rfl, Ext.refl _⟩
  case round =>
    obtain ⟨k, hk, rfl, rfl, rfl, hE⟩ := hrel
    by_cases hlt : k < m
    · have hb := ndK_bd h0 h1 k
      obtain ⟨hs, -⟩ := sum_s ⟨#[digU (ndK n k % 10)]⟩ (ouK n k) (n := 1) rfl (ouK_size n k) (by omega)
      have Hd := Lib.hid (show ndK n (k + 1) = ndK n k / 10 from rfl)
      have Ho := Lib.hid (show ouK n (k + 1) = ⟨#[digU (ndK n k % 10)]⟩ ++ ouK n k from rfl)
      generalize ndK n k = r at *
      generalize ouK n k = o at *
      have hdu : UInt8.ofNat (48 + r % 10).toNat = digU (r % 10) := rfl
      go_wp2_with fail
      go_roundw
      case rel => exact ⟨k + 1, by omega, by rw [Hd.out], by rw [Ho.out], by go_num, hE.alloc _⟩
      case measure => simp [intOf]; omega
    · obtain rfl : k = m := by omega
      go_wp2_with fail
      go_ret
      exact ⟨rfl, hE⟩
end Go.Proofs.YtocniclkooiggaaGreatDoor

namespace Go.Proofs.YtocniclkooiggaaGreatDoor
open Go.RowKit

def wdT : ByteArray := ⟨#[83, 117, 110, 77, 111, 110, 84, 117, 101, 87, 101, 100, 84, 104, 117, 70, 114, 105, 83, 97, 116]⟩
def moT : ByteArray := ⟨#[74, 97, 110, 70, 101, 98, 77, 97, 114, 65, 112, 114, 77, 97, 121, 74, 117, 110, 74, 117, 108, 65, 117, 103, 83, 101, 112, 79, 99, 116, 78, 111, 118, 68, 101, 99]⟩
theorem wdT_at (d : Int) : wdT.extract (3 * wkN d).toNat (3 * wkN d + 3).toNat = wdS d := by
  have hb := wkN_bd d
  unfold wdS
  generalize wkN d = k at *
  have : k = 0 ∨ k = 1 ∨ k = 2 ∨ k = 3 ∨ k = 4 ∨ k = 5 ∨ k = 6 := by omega
  rcases this with h | h | h | h | h | h | h <;> subst h <;> decide
theorem moT_at {m : Nat} (h1 : 1 ≤ m) (h2 : m ≤ 12) : moT.extract (3 * (m : Int) - 3).toNat (3 * (m : Int)).toNat = moS m := by
  have : m = 1 ∨ m = 2 ∨ m = 3 ∨ m = 4 ∨ m = 5 ∨ m = 6 ∨ m = 7 ∨ m = 8 ∨ m = 9 ∨ m = 10 ∨ m = 11 ∨ m = 12 := by omega
  rcases this with h | h | h | h | h | h | h | h | h | h | h | h <;> subst h <;> decide
theorem dig_at (n m : Int) (w : World) (h : n = m) (h0 : 0 ≤ m) (h1 : m ≤ 99) :
    Calls Tryz.prog 100 #[.int .i64 n, .int .i64 2] w fun e w' => e = .returned (.string (twoS m)) ∧ Ext w w' := by
  subst h
  have := rd_digits n 2 w h0 (by omega) (by decide)
  rwa [ouK_2 h0 h1] at this

set_option maxHeartbeats 4000000 in
set_option maxRecDepth 100000 in
theorem rd_Format (n : Int) (w : World) (h0 : 0 ≤ n) (h1 : n ≤ 253402300799) :
    Calls Tryz.prog 80 #[.int .i64 n] w fun e w' => e = .returned (.string (fmtS n)) ∧ Ext w w' := by
  have hd0 : 0 ≤ n / 86400 := by omega
  have hd1 : n / 86400 ≤ 2932896 := by omega
  obtain ⟨⟨y0, y1, m0, m1, c0, c1⟩, -⟩ := date_ok hd0 hd1
  have hml := ml_bd (yOf (n / 86400)) (mOf (n / 86400))
  have hwk := wkN_bd (n / 86400)
  have hxw := wdT_at (n / 86400)
  have hxm := moT_at m0 m1
  have hy4 := fun w => rd_digits (yOf (n / 86400)) 4 w (by omega) (by omega) (by decide)
  rw [ouK_4 (by omega) (by omega)] at hy4
  obtain ⟨F, hF⟩ : ∃ F, fmtS n = F := ⟨_, rfl⟩
  rw [hF]
  unfold fmtS catS at hF
  have hws : (wdS (n / 86400)).size = 3 := wdS_size
  have hms := moS_size m0 m1
  have hDate := rd_Date (n / 86400) w hd0 hd1
  have hWk := rd_Weekday (n / 86400)
  unfold date3V at hDate
  generalize hdd : n / 86400 = dd at *
  generalize hrr : n % 86400 = rr at *
  have hr0 : 0 ≤ rr := by omega
  have hr1 : rr < 86400 := by omega
  generalize mOf dd = mm at *
  generalize yOf dd = yy at *
  generalize dOf dd = ee at *
  generalize wdS dd = ws at *
  generalize moS mm = ms at *
  generalize wkN dd = wk at *
  have hf4 : (twoS (yy / 100) ++ twoS (yy % 100)).size = 4 := rfl
  have Hf := Lib.hid (show ws ++ ⟨#[44, 32]⟩ ++ twoS ee ++ ⟨#[32]⟩ ++ ms ++ ⟨#[32]⟩ ++ (twoS (yy / 100) ++ twoS (yy % 100)) ++ ⟨#[32]⟩ ++ (twoS (rr / 3600) ++ ⟨#[58]⟩ ++ twoS (rr / 60 % 60) ++ ⟨#[58]⟩ ++ twoS (rr % 60)) ++ ⟨#[32, 71, 77, 84]⟩ = F by
    rw [← hF]; simp only [ByteArray.append_assoc])
  clear hF
  generalize twoS (yy / 100) ++ twoS (yy % 100) = y4 at *
  obtain ⟨r1, x1⟩ := sum_s (twoS (rr / 3600)) ⟨#[58]⟩ (twoS_size _) rfl (by decide)
  obtain ⟨r2, x2⟩ := sum_s _ (twoS (rr / 60 % 60)) x1 (twoS_size _) (by decide)
  obtain ⟨r3, x3⟩ := sum_s _ ⟨#[58]⟩ x2 rfl (by decide)
  obtain ⟨r4, x4⟩ := sum_s _ (twoS (rr % 60)) x3 (twoS_size _) (by decide)
  obtain ⟨s1, z1⟩ := sum_s ws ⟨#[44, 32]⟩ hws rfl (by decide)
  obtain ⟨s2, z2⟩ := sum_s _ (twoS ee) z1 (twoS_size _) (by decide)
  obtain ⟨s3, z3⟩ := sum_s _ ⟨#[32]⟩ z2 rfl (by decide)
  obtain ⟨s4, z4⟩ := sum_s _ ms z3 hms (by decide)
  obtain ⟨s5, z5⟩ := sum_s _ ⟨#[32]⟩ z4 rfl (by decide)
  obtain ⟨s6, z6⟩ := sum_s _ y4 z5 hf4 (by decide)
  obtain ⟨s7, z7⟩ := sum_s _ ⟨#[32]⟩ z6 rfl (by decide)
  obtain ⟨s8, z8⟩ := sum_s _ _ z7 x4 (by decide)
  obtain ⟨s9, z9⟩ := sum_s _ ⟨#[32, 71, 77, 84]⟩ z8 rfl (by decide)
  clear x1 x2 x3 x4 z1 z2 z3 z4 z5 z6 z7 z8 z9
  have Hw := Lib.hid hWk; clear hWk
  have HD := Lib.hid hDate; clear hDate
  have HY := Lib.hid hy4; clear hy4
  have q3 : rr.tdiv 3600 = rr / 3600 := Int.tdiv_eq_ediv_of_nonneg (by omega)
  have q4 : rr.tdiv 60 = rr / 60 := Int.tdiv_eq_ediv_of_nonneg (by omega)
  have q5 : (rr / 60).tmod 60 = rr / 60 % 60 := Int.tmod_eq_emod_of_nonneg (by omega)
  have q6 : rr.tmod 60 = rr % 60 := Int.tmod_eq_emod_of_nonneg (by omega)
  have k3 : IntKind.i64.wrap (rr / 3600) = rr / 3600 := IntWalk.i64_in _ (by omega)
  have k4 : IntKind.i64.wrap (rr / 60) = rr / 60 := IntWalk.i64_in _ (by omega)
  have b3 : 0 ≤ rr / 3600 ∧ rr / 3600 ≤ 99 := by omega
  have b4 : 0 ≤ rr / 60 % 60 ∧ rr / 60 % 60 ≤ 99 := by omega
  have b5 : 0 ≤ rr % 60 ∧ rr % 60 ≤ 99 := by omega
  have b0 : 0 ≤ ee ∧ ee ≤ 99 := by omega
  go_enter Tryz.func80, Tryz.ntmps80
  go_wp2_with fail
  refine HD.out.mono ?_; rintro e w1 ⟨rfl, rfl⟩
  go_wp2_with fail
  refine (Hw.out _ hd0 (by omega)).mono ?_; rintro e w2 ⟨rfl, rfl⟩
  go_wp2_with fail
  refine (dig_at _ (rr / 3600) _ (by first | rfl | exact k3 | exact q3 | (rw [q3]; exact k3)) b3.1 b3.2).mono ?_; rintro e w3 ⟨rfl, hb3⟩
  go_wp2_with fail
  refine (dig_at _ (rr / 60 % 60) _ (by first | rfl | (rw [k4]; exact q5) | exact q5) b4.1 b4.2).mono ?_; rintro e w4 ⟨rfl, hb4⟩
  go_wp2_with fail
  refine (dig_at _ (rr % 60) _ (by first | rfl | exact q6) b5.1 b5.2).mono ?_; rintro e w5 ⟨rfl, hb5⟩
  go_wp2_with fail
  have hE := ((hb3.trans hb4).trans hb5).drew
  have p1 : IntKind.i64.wrap (3 * wk) = 3 * wk := IntWalk.i64_in _ (by omega)
  have p2 : IntKind.i64.wrap (3 * wk + 3) = 3 * wk + 3 := IntWalk.i64_in _ (by omega)
  have p3 : IntKind.i64.wrap (3 * (mm : Int)) = 3 * (mm : Int) := IntWalk.i64_in _ (by omega)
  have p4 : IntKind.i64.wrap (3 * (mm : Int) - 3) = 3 * (mm : Int) - 3 := IntWalk.i64_in _ (by omega)
  have o1 : (0 : Int) ≤ 3 * wk := by omega
  have o2 : (0 : Int) ≤ 3 * wk + 3 := by omega
  have o3 : 3 * wk ≤ 3 * wk + 3 := by omega
  have o4 : 3 * wk + 3 ≤ 21 := by omega
  have o5 : (0 : Int) ≤ 3 * (mm : Int) - 3 := by omega
  have o6 : (0 : Int) ≤ 3 * (mm : Int) := by omega
  have o7 : 3 * (mm : Int) - 3 ≤ 3 * (mm : Int) := by omega
  have o8 : 3 * (mm : Int) ≤ 36 := by omega
  unfold wdT at hxw
  unfold moT at hxm
  have o9 : (3 : Int) ≤ 3 * (mm : Int) := by omega
  have o10 : (1 : Int) ≤ (mm : Int) := by omega
  have o11 : (mm : Int) ≤ 12 := by omega
  refine wp_region_held_drew (S := (fun _ => True)) (by kernel_rfl) ?_ (fun hHeld => ?_)
  · (try dsimp only); (try trivial)
  refine wpAnyH_take (i := 0) (oi := { dst := some 36, op := _, type := _, pos := _, after := _, guard := _ }) (v := ?_) rfl (by kernel_rfl) (by kernel_rfl) (by kernel_rfl) (fun _ _ _ h => h) (Or.inl ⟨by rfl, ?_⟩) (by assumption) ?_
  rotate_left
  · (intro w hSw; (try dsimp only at hSw); go_simp; (try with_reducible rfl))
  (try simp only [Act.put, List.setIfInBounds_toArray, List.set_cons_zero, List.set_cons_succ])
  refine wpAnyH_take (i := 1) (oi := { dst := some 37, op := _, type := _, pos := _, after := _, guard := _ }) (v := ?_) rfl (by kernel_rfl) (by kernel_rfl) (by kernel_rfl) (fun _ _ _ h => h) (Or.inl ⟨by rfl, ?_⟩) (by assumption) ?_
  rotate_left
  · (intro w hSw; (try dsimp only at hSw); go_simp; (try with_reducible rfl))
  (try simp only [Act.put, List.setIfInBounds_toArray, List.set_cons_zero, List.set_cons_succ])
  refine wpAnyH_take (i := 2) (oi := { dst := some 38, op := _, type := _, pos := _, after := _, guard := _ }) (v := ?_) rfl (by kernel_rfl) (by kernel_rfl) (by kernel_rfl) (fun _ _ _ h => h) (Or.inl ⟨by rfl, ?_⟩) (by assumption) ?_
  rotate_left
  · (intro w hSw; (try dsimp only at hSw); go_simp; (try with_reducible rfl))
  (try simp only [Act.put, List.setIfInBounds_toArray, List.set_cons_zero, List.set_cons_succ])
  refine wpAnyH_take (i := 3) (oi := { dst := some 39, op := _, type := _, pos := _, after := _, guard := _ }) (v := ?_) rfl (by kernel_rfl) (by kernel_rfl) (by kernel_rfl) (fun _ _ _ h => h) (Or.inl ⟨by rfl, ?_⟩) (by assumption) ?_
  rotate_left
  · (intro w hSw; (try dsimp only at hSw); go_simp; (try with_reducible rfl))
  (try simp only [Act.put, List.setIfInBounds_toArray, List.set_cons_zero, List.set_cons_succ])
  refine wpAnyH_take (i := 4) (oi := { dst := some 40, op := _, type := _, pos := _, after := _, guard := _ }) (v := ?_) rfl (by kernel_rfl) (by kernel_rfl) (by kernel_rfl) (fun _ _ _ h => h) (Or.inl ⟨by rfl, ?_⟩) (by assumption) ?_
  rotate_left
  · (intro w hSw; (try dsimp only at hSw); go_simp; (try with_reducible rfl))
  (try simp only [Act.put, List.setIfInBounds_toArray, List.set_cons_zero, List.set_cons_succ])
  refine wpAnyH_take (i := 5) (oi := { dst := some 41, op := _, type := _, pos := _, after := _, guard := _ }) (v := ?_) rfl (by kernel_rfl) (by kernel_rfl) (by kernel_rfl) (fun _ _ _ h => h) (Or.inl ⟨by rfl, ?_⟩) (by assumption) ?_
  rotate_left
  · (intro w hSw; (try dsimp only at hSw); go_simp; (try with_reducible rfl))
  (try simp only [Act.put, List.setIfInBounds_toArray, List.set_cons_zero, List.set_cons_succ])
  refine wpAnyH_take (i := 6) (oi := { dst := some 42, op := _, type := _, pos := _, after := _, guard := _ }) (v := ?_) rfl (by kernel_rfl) (by kernel_rfl) (by kernel_rfl) (fun _ _ _ h => h) (Or.inl ⟨by rfl, ?_⟩) (by assumption) ?_
  rotate_left
  · (intro w hSw; (try dsimp only at hSw); go_simp; (try with_reducible rfl))
  (try simp only [Act.put, List.setIfInBounds_toArray, List.set_cons_zero, List.set_cons_succ])
  refine wpAnyH_take (i := 7) (oi := { dst := some 43, op := _, type := _, pos := _, after := _, guard := _ }) (v := ?_) rfl (by kernel_rfl) (by kernel_rfl) (by kernel_rfl) (fun _ _ _ h => h) (Or.inl ⟨by rfl, ?_⟩) (by assumption) ?_
  rotate_left
  · (intro w hSw; (try dsimp only at hSw); go_simp; (try with_reducible rfl))
  (try simp only [Act.put, List.setIfInBounds_toArray, List.set_cons_zero, List.set_cons_succ])
  refine wpAnyH_take (i := 11) (oi := { dst := some 47, op := _, type := _, pos := _, after := _, guard := _ }) (v := ?_) rfl (by kernel_rfl) (by kernel_rfl) (by kernel_rfl) (fun _ _ _ h => h) (Or.inl ⟨by rfl, ?_⟩) (by assumption) ?_
  rotate_left
  · (intro w hSw; (try dsimp only at hSw); go_simp; (try with_reducible rfl))
  (try simp only [Act.put, List.setIfInBounds_toArray, List.set_cons_zero, List.set_cons_succ])
  refine wpAnyH_take (i := 12) (oi := { dst := some 48, op := _, type := _, pos := _, after := _, guard := _ }) (v := ?_) rfl (by kernel_rfl) (by kernel_rfl) (by kernel_rfl) (fun _ _ _ h => h) (Or.inl ⟨by rfl, ?_⟩) (by assumption) ?_
  rotate_left
  · (intro w hSw; (try dsimp only at hSw); go_simp; (try with_reducible rfl))
  (try simp only [Act.put, List.setIfInBounds_toArray, List.set_cons_zero, List.set_cons_succ])
  refine wpAnyH_take (i := 13) (oi := { dst := some 49, op := _, type := _, pos := _, after := _, guard := _ }) (v := ?_) rfl (by kernel_rfl) (by kernel_rfl) (by kernel_rfl) (fun _ _ _ h => h) (Or.inl ⟨by rfl, ?_⟩) (by assumption) ?_
  rotate_left
  · (intro w hSw; (try dsimp only at hSw); go_simp; (try with_reducible rfl))
  (try simp only [Act.put, List.setIfInBounds_toArray, List.set_cons_zero, List.set_cons_succ])
  refine wpAnyH_take (i := 14) (oi := { dst := some 50, op := _, type := _, pos := _, after := _, guard := _ }) (v := ?_) rfl (by kernel_rfl) (by kernel_rfl) (by kernel_rfl) (fun _ _ _ h => h) (Or.inl ⟨by rfl, ?_⟩) (by assumption) ?_
  rotate_left
  · (intro w hSw; (try dsimp only at hSw); go_simp; (try with_reducible rfl))
  (try simp only [Act.put, List.setIfInBounds_toArray, List.set_cons_zero, List.set_cons_succ])
  refine wpAnyH_take (i := 15) (oi := { dst := some 51, op := _, type := _, pos := _, after := _, guard := _ }) (v := ?_) rfl (by kernel_rfl) (by kernel_rfl) (by kernel_rfl) (fun _ _ _ h => h) (Or.inl ⟨by rfl, ?_⟩) (by assumption) ?_
  rotate_left
  · (intro w hSw; (try dsimp only at hSw); go_simp; (try with_reducible rfl))
  (try simp only [Act.put, List.setIfInBounds_toArray, List.set_cons_zero, List.set_cons_succ])
  refine wpAnyH_take (i := 16) (oi := { dst := some 52, op := _, type := _, pos := _, after := _, guard := _ }) (v := ?_) rfl (by kernel_rfl) (by kernel_rfl) (by kernel_rfl) (fun _ _ _ h => h) (Or.inl ⟨by rfl, ?_⟩) (by assumption) ?_
  rotate_left
  · (intro w hSw; (try dsimp only at hSw); go_simp; (try with_reducible rfl))
  (try simp only [Act.put, List.setIfInBounds_toArray, List.set_cons_zero, List.set_cons_succ])
  refine wpAnyH_take (i := 19) (oi := { dst := some 55, op := _, type := _, pos := _, after := _, guard := _ }) (v := ?_) rfl (by kernel_rfl) (by kernel_rfl) (by kernel_rfl) (fun _ _ _ h => h) (Or.inl ⟨by rfl, ?_⟩) (by assumption) ?_
  rotate_left
  · (intro w hSw; (try dsimp only at hSw); go_simp; (try with_reducible rfl))
  (try simp only [Act.put, List.setIfInBounds_toArray, List.set_cons_zero, List.set_cons_succ])
  refine wpAnyH_take (i := 23) (oi := { dst := some 59, op := _, type := _, pos := _, after := _, guard := _ }) (v := ?_) rfl (by kernel_rfl) (by kernel_rfl) (by kernel_rfl) (fun _ _ _ h => h) (Or.inl ⟨by rfl, ?_⟩) (by assumption) ?_
  rotate_left
  · (intro w hSw; (try dsimp only at hSw); go_simp; (try with_reducible rfl))
  (try simp only [Act.put, List.setIfInBounds_toArray, List.set_cons_zero, List.set_cons_succ])
  refine wpAnyH_ready (rs := [8]) (by kernel_rfl) (by simp) ?_
  refine AllReadyH.cons (o := { dst := some 44, op := _, type := _, pos := _, after := _, guard := _ }) rfl (fun K hK => ?_) AllReadyH.nil
  go_simp
  refine (dig_at _ (ee) _ (by rfl) b0.1 b0.2).mono ?_; rintro e w6 ⟨rfl, hb6⟩; replace hE := hE.trans hb6; clear hb6
  try go_wp2_with fail
  refine hK.out _ _ ?_ (fun hHeld => ?_)
  · (try dsimp only); (try trivial)
  clear hK K
  (try simp only [Act.put, List.setIfInBounds_toArray, List.set_cons_zero, List.set_cons_succ])
  refine wpAnyH_take (i := 9) (oi := { dst := some 45, op := _, type := _, pos := _, after := _, guard := _ }) (v := ?_) rfl (by kernel_rfl) (by kernel_rfl) (by kernel_rfl) (fun _ _ _ h => h) (Or.inl ⟨by rfl, ?_⟩) (by assumption) ?_
  rotate_left
  · (intro w hSw; (try dsimp only at hSw); go_simp; (try with_reducible rfl))
  (try simp only [Act.put, List.setIfInBounds_toArray, List.set_cons_zero, List.set_cons_succ])
  refine wpAnyH_take (i := 10) (oi := { dst := some 46, op := _, type := _, pos := _, after := _, guard := _ }) (v := ?_) rfl (by kernel_rfl) (by kernel_rfl) (by kernel_rfl) (fun _ _ _ h => h) (Or.inl ⟨by rfl, ?_⟩) (by assumption) ?_
  rotate_left
  · (intro w hSw; (try dsimp only at hSw); go_simp; (try with_reducible rfl))
  (try simp only [Act.put, List.setIfInBounds_toArray, List.set_cons_zero, List.set_cons_succ])
  refine wpAnyH_take (i := 17) (oi := { dst := some 53, op := _, type := _, pos := _, after := _, guard := _ }) (v := ?_) rfl (by kernel_rfl) (by kernel_rfl) (by kernel_rfl) (fun _ _ _ h => h) (Or.inl ⟨by rfl, ?_⟩) (by assumption) ?_
  rotate_left
  · (intro w hSw; (try dsimp only at hSw); go_simp; (try with_reducible rfl))
  (try simp only [Act.put, List.setIfInBounds_toArray, List.set_cons_zero, List.set_cons_succ])
  refine wpAnyH_take (i := 18) (oi := { dst := some 54, op := _, type := _, pos := _, after := _, guard := _ }) (v := ?_) rfl (by kernel_rfl) (by kernel_rfl) (by kernel_rfl) (fun _ _ _ h => h) (Or.inl ⟨by rfl, ?_⟩) (by assumption) ?_
  rotate_left
  · (intro w hSw; (try dsimp only at hSw); go_simp; (try with_reducible rfl))
  (try simp only [Act.put, List.setIfInBounds_toArray, List.set_cons_zero, List.set_cons_succ])
  refine wpAnyH_ready (rs := [20]) (by kernel_rfl) (by simp) ?_
  refine AllReadyH.cons (o := { dst := some 56, op := _, type := _, pos := _, after := _, guard := _ }) rfl (fun K hK => ?_) AllReadyH.nil
  go_simp
  refine (HY.out _).mono ?_; rintro e w7 ⟨rfl, hb7⟩; replace hE := hE.trans hb7; clear hb7
  try go_wp2_with fail
  refine hK.out _ _ ?_ (fun hHeld => ?_)
  · (try dsimp only); (try trivial)
  clear hK K
  (try simp only [Act.put, List.setIfInBounds_toArray, List.set_cons_zero, List.set_cons_succ])
  refine wpAnyH_take (i := 21) (oi := { dst := some 57, op := _, type := _, pos := _, after := _, guard := _ }) (v := ?_) rfl (by kernel_rfl) (by kernel_rfl) (by kernel_rfl) (fun _ _ _ h => h) (Or.inl ⟨by rfl, ?_⟩) (by assumption) ?_
  rotate_left
  · (intro w hSw; (try dsimp only at hSw); go_simp; (try with_reducible rfl))
  (try simp only [Act.put, List.setIfInBounds_toArray, List.set_cons_zero, List.set_cons_succ])
  refine wpAnyH_take (i := 22) (oi := { dst := some 58, op := _, type := _, pos := _, after := _, guard := _ }) (v := ?_) rfl (by kernel_rfl) (by kernel_rfl) (by kernel_rfl) (fun _ _ _ h => h) (Or.inl ⟨by rfl, ?_⟩) (by assumption) ?_
  rotate_left
  · (intro w hSw; (try dsimp only at hSw); go_simp; (try with_reducible rfl))
  (try simp only [Act.put, List.setIfInBounds_toArray, List.set_cons_zero, List.set_cons_succ])
  refine wpAnyH_take (i := 24) (oi := { dst := some 60, op := _, type := _, pos := _, after := _, guard := _ }) (v := ?_) rfl (by kernel_rfl) (by kernel_rfl) (by kernel_rfl) (fun _ _ _ h => h) (Or.inl ⟨by rfl, ?_⟩) (by assumption) ?_
  rotate_left
  · (intro w hSw; (try dsimp only at hSw); go_simp; (try with_reducible rfl))
  (try simp only [Act.put, List.setIfInBounds_toArray, List.set_cons_zero, List.set_cons_succ])
  refine wpAnyH_take (i := 25) (oi := { dst := some 61, op := _, type := _, pos := _, after := _, guard := _ }) (v := ?_) rfl (by kernel_rfl) (by kernel_rfl) (by kernel_rfl) (fun _ _ _ h => h) (Or.inl ⟨by rfl, ?_⟩) (by assumption) ?_
  rotate_left
  · (intro w hSw; (try dsimp only at hSw); go_simp; (try with_reducible rfl))
  (try simp only [Act.put, List.setIfInBounds_toArray, List.set_cons_zero, List.set_cons_succ])
  refine wpAnyH_take (i := 26) (oi := { dst := some 2, op := _, type := _, pos := _, after := _, guard := _ }) (v := ?_) rfl (by kernel_rfl) (by kernel_rfl) (by kernel_rfl) (fun _ _ _ h => h) (Or.inl ⟨by rfl, ?_⟩) (by assumption) ?_
  rotate_left
  · (intro w hSw; (try dsimp only at hSw); go_simp; (try with_reducible rfl))
  (try simp only [Act.put, List.setIfInBounds_toArray, List.set_cons_zero, List.set_cons_succ])
  refine wpAnyH_done (by kernel_rfl) ?_ _
  go_wp2_with fail
  go_ret
  exact ⟨ret_v (congrArg Value.string Hf.out), hE⟩
end Go.Proofs.YtocniclkooiggaaGreatDoor

namespace Go.Proofs.YtocniclkooiggaaGreatDoor
open Go.RowKit

/-- r is the first month whose name t is, or 13. -/
def MF (t : ByteArray) (r : Nat) : Prop := 1 ≤ r ∧ r ≤ 13 ∧ (∀ j, 1 ≤ j → j < r → ((moS j).toList == t.toList) = false) ∧ (r < 13 → ((moS r).toList == t.toList) = true)
theorem moA_hit (t : ByteArray) : ∀ k, 0 < moA t k → t.toList = (moS (moA t k)).toList
  | 0, h => absurd h (by unfold moA; decide)
  | k + 1, h => by
    cases he : (t.toList == (moS (k + 1)).toList)
    · rw [moA_no he] at h ⊢
      exact moA_hit t k h
    · rw [moA_yes he]
      exact eq_of_beq he
theorem moA_pos (t : ByteArray) : ∀ k j, 1 ≤ j → j ≤ k → t.toList = (moS j).toList → 0 < moA t k
  | 0, j, h1, h2, _ => by omega
  | k + 1, j, h1, h2, h => by
    cases he : (t.toList == (moS (k + 1)).toList)
    · rw [moA_no he]
      by_cases hj : j = k + 1
      · subst hj; rw [h, beq_self_eq_true] at he; exact absurd he (by decide)
      · exact moA_pos t k j h1 (by omega) h
    · rw [moA_yes he]; omega
theorem moS_inj {a b : Nat} (ha : 1 ≤ a ∧ a ≤ 12) (hb : 1 ≤ b ∧ b ≤ 12) (h : (moS a).toList = (moS b).toList) : a = b := by
  have key : ∀ i < 12, ∀ j < 12, moS (i + 1) = moS (j + 1) → i = j := by decide
  have h' : moS a = moS b := by
    have e : ∀ x : ByteArray, x = ⟨x.toList.toArray⟩ := fun x => by rw [ByteArray.toList_eq]
    rw [e (moS a), e (moS b), h]
  have := key (a - 1) (by omega) (b - 1) (by omega) (by rw [show a - 1 + 1 = a by omega, show b - 1 + 1 = b by omega]; exact h')
  omega
theorem MF_moA {t : ByteArray} {r : Nat} (h : MF t r) : (r ≤ 12 ∧ moA t 12 = r) ∨ (r = 13 ∧ moA t 12 = 0) := by
  obtain ⟨h1, h2, h3, h4⟩ := h
  have hle := moA_le t 12
  by_cases hr : r < 13
  · left
    have e := eq_of_beq (h4 hr)
    have hp := moA_pos t 12 r h1 (by omega) e.symm
    have hh := moA_hit t 12 hp
    exact ⟨by omega, (moS_inj ⟨by omega, by omega⟩ ⟨by omega, hle⟩ (e.trans hh)).symm⟩
  · right
    refine ⟨by omega, ?_⟩
    by_cases hz : moA t 12 = 0
    · exact hz
    · have hh := moA_hit t 12 (by omega)
      have := h3 (moA t 12) (by omega) (by omega)
      rw [hh, beq_self_eq_true] at this
      exact absurd this (by decide)
theorem num2_list {s : ByteArray} {a b : UInt8} (h : s.data.toList = [a, b]) : num2 s = if dgB a && dgB b then 10 * ((a.toNat : Int) - 48) + ((b.toNat : Int) - 48) else -1 := by
  have : s = ⟨#[a, b]⟩ := by
    cases s with | mk d => cases d with | mk l => simp only at h; subst h; rfl
  subst this
  rfl
theorem numS_2 {s : ByteArray} (h : s.size = 2) : numS s = num2 s := by
  obtain ⟨a, b, hl⟩ : ∃ a b, s.data.toList = [a, b] := by
    have : s.data.toList.length = 2 := by simpa using h
    match s.data.toList, this with
    | [a, b], _ => exact ⟨a, b, rfl⟩
  rw [num2_list hl]
  unfold numS
  rw [hl]
  simp only [List.any_cons, List.any_nil, Bool.or_false, ndg, numF]
  cases dgB a <;> cases dgB b <;> simp
theorem dig2_bd {a b : UInt8} (h : (dgB a && dgB b) = true) : 0 ≤ 10 * ((a.toNat : Int) - 48) + ((b.toNat : Int) - 48) := by
  rw [Bool.and_eq_true] at h
  have := dgB_bd h.1
  have := dgB_bd h.2
  omega
theorem numS_4 {s t u v : ByteArray} (h : s.size = 4) (ht : t.data.toList = s.data.toList) (hu : u.data.toList = s.data.toList.take 2) (hv : v.data.toList = s.data.toList.drop 2) :
    (numS t = -1 ∧ (num2 u < 0 ∨ num2 v < 0)) ∨ (numS t = 100 * num2 u + num2 v ∧ 0 ≤ num2 u ∧ 0 ≤ num2 v) := by
  obtain ⟨a, b, c, d, hl⟩ : ∃ a b c d, s.data.toList = [a, b, c, d] := by
    have : s.data.toList.length = 4 := by simpa using h
    match s.data.toList, this with
    | [a, b, c, d], _ => exact ⟨a, b, c, d, rfl⟩
  rw [hl] at ht hu hv
  have hu : u.data.toList = [a, b] := hu
  have hv : v.data.toList = [c, d] := hv
  rw [num2_list hu, num2_list hv]
  unfold numS
  rw [ht]
  cases h1 : (dgB a && dgB b)
  · left
    refine ⟨?_, Or.inl (by rw [if_neg (by decide)]; decide)⟩
    rw [if_pos]
    simp only [List.any_cons, List.any_nil, Bool.or_false, ndg]
    revert h1
    cases dgB a <;> cases dgB b <;> simp
  · cases h2 : (dgB c && dgB d)
    · left
      refine ⟨?_, Or.inr (by rw [if_neg (by decide)]; decide)⟩
      rw [if_pos]
      simp only [List.any_cons, List.any_nil, Bool.or_false, ndg]
      revert h2
      cases dgB c <;> cases dgB d <;> simp
    · right
      refine ⟨?_, dig2_bd h1, dig2_bd h2⟩
      rw [Bool.and_eq_true] at h1 h2
      rw [if_neg (by simp only [List.any_cons, List.any_nil, Bool.or_false, ndg]; rw [h1.1, h1.2, h2.1, h2.2]; decide), if_pos rfl, if_pos rfl]
      unfold numF numF numF numF numF
      omega
theorem ext_listR (s : ByteArray) (i j : Nat) : (s.extract i j).data.toList = (s.data.toList.take j).drop i := by
  rw [ByteArray.data_extract, Array.toList_extract, List.extract_eq_drop_take']

/-- What the reference makes of the parts. -/
def dateW (s : ByteArray) (y d h mi se : Int) (m : Nat) : Option Int :=
  if okD y m d ∧ ¬ (h < 0 ∨ 23 < h ∨ mi < 0 ∨ 59 < mi ∨ se < 0 ∨ 59 < se) then (if ((fmtS (secN y m d h mi se)).toList == s.toList) then some (secN y m d h mi se) else none) else none
theorem dateP_ref {s : ByteArray} (h29 : s.size = 29) {r : Nat} (hr : MF (s.extract 8 11) r) :
    dateP s = dateW s (numS (s.extract 12 16)) (numS (s.extract 5 7)) (numS (s.extract 17 19)) (numS (s.extract 20 22)) (numS (s.extract 23 25)) r := by
  have hsz : ∀ i j, (s.extract i j).size = min j 29 - i := fun i j => by rw [ByteArray.size_extract, h29]
  rw [numS_2 (hsz 5 7), numS_2 (hsz 17 19), numS_2 (hsz 20 22), numS_2 (hsz 23 25)]
  have hl : s.data.toList.length = 29 := by simpa using h29
  have h4 := numS_4 (s := s.extract 12 16) (t := s.extract 12 16) (u := s.extract 12 14) (v := s.extract 14 16) (hsz 12 16) rfl
    (by rw [ext_listR, ext_listR, List.take_drop, List.take_take]; rfl)
    (by rw [ext_listR, ext_listR, List.drop_drop])
  unfold dateP
  rw [if_pos h29]
  generalize num2 (s.extract 5 7) = d at *
  generalize num2 (s.extract 12 14) = c at *
  generalize num2 (s.extract 14 16) = y at *
  generalize num2 (s.extract 17 19) = h at *
  generalize num2 (s.extract 20 22) = mi at *
  generalize num2 (s.extract 23 25) = se at *
  generalize numS (s.extract 12 16) = y4 at *
  have hm := MF_moA hr
  generalize moA (s.extract 8 11) 12 = m at *
  unfold dateQ dateW
  rcases h4 with ⟨e1, e2⟩ | ⟨e1, e2, e3⟩
  · rw [if_pos (by omega), if_neg]
    rintro ⟨hk, -⟩
    have := hk.1
    omega
  · rw [← e1]
    rcases hm with ⟨m1, m2⟩ | ⟨m1, m2⟩
    · rw [m2]
      by_cases hk : okD y4 r d
      · have hd : 1 ≤ d := hk.2.2.2.2.1
        rw [if_pos hk]
        by_cases hb : h < 0 ∨ 23 < h ∨ mi < 0 ∨ 59 < mi ∨ se < 0 ∨ 59 < se
        · rw [if_pos (by omega)]
          exact (if_neg (fun e => e.2 hb)).symm
        · rw [if_neg (by omega)]
          exact (if_pos ⟨hk, hb⟩).symm
      · rw [if_neg hk, ite_self]
        exact (if_neg (fun e => hk e.1)).symm
    · have n1 : ¬ okD y4 m d := fun e => by have := e.2.2.1; omega
      have n2 : ¬ okD y4 r d := fun e => by have := e.2.2.2.1; omega
      rw [if_neg n1, ite_self]
      exact (if_neg (fun e => n2 e.1)).symm
theorem numS_bd {s : ByteArray} (h : s.size ≤ 4) : -1 ≤ numS s ∧ numS s ≤ 9999 := by
  unfold numS
  split
  · omega
  · rename_i hn
    have hb := numF_bd s.data.toList 0 (by omega) (by simpa using hn)
    have hl : s.data.toList.length = s.size := by simp
    rw [hl] at hb
    have : s.size = 0 ∨ s.size = 1 ∨ s.size = 2 ∨ s.size = 3 ∨ s.size = 4 := by omega
    rcases this with h | h | h | h | h <;> rw [h] at hb <;> simp at hb <;> omega
theorem dateW_bad {s : ByteArray} {y d h mi se : Int} {m : Nat} (hb : h < 0 ∨ 23 < h ∨ mi < 0 ∨ 59 < mi ∨ se < 0 ∨ 59 < se) : dateW s y d h mi se m = none := if_neg (fun e => e.2 hb)
theorem dateW_day {s : ByteArray} {y d h mi se : Int} {m : Nat} (hb : ¬ okD y m d) : dateW s y d h mi se m = none := if_neg (fun e => hb e.1)
theorem dateW_ok {s : ByteArray} {y d h mi se : Int} {m : Nat} (hk : okD y m d) (hb : ¬ (h < 0 ∨ 23 < h ∨ mi < 0 ∨ 59 < mi ∨ se < 0 ∨ 59 < se)) : dateW s y d h mi se m = if ((fmtS (secN y m d h mi se)).toList == s.toList) then some (secN y m d h mi se) else none := if_pos ⟨hk, hb⟩
/-- What the reference's Parse returns: a number that counts only beside true. -/
def Pd2 (o : Option Int) (e : Ending) : Prop := ∃ n : Int, e = .returned (.tuple #[.int .i64 n, .bool o.isSome]) ∧ ∀ k, o = some k → n = k
theorem Pd2.no {o : Option Int} (h : o = none) {n : Int} {b : Bool} (hb : b = false) : Pd2 o (.returned (.tuple #[.int .i64 n, .bool b])) := by
  subst h; subst hb; exact ⟨n, rfl, fun k e => by cases e⟩
theorem Pd2.yes {o : Option Int} {n : Int} {b : Bool} (h : o = if b then some n else none) : Pd2 o (.returned (.tuple #[.int .i64 n, .bool b])) := by
  subst h
  refine ⟨n, by cases b <;> rfl, fun k e => ?_⟩
  cases b
  · cases e
  · injection e
set_option maxHeartbeats 4000000 in
set_option maxRecDepth 100000 in
theorem rd_Parse (s : ByteArray) (w : World) (_hs : s.size ≤ 140737488351232) :
    Calls Tryz.prog 59 #[.string s] w fun e w' => Pd2 (dateP s) e ∧ Ext w w' := by
  by_cases h29 : s.size = 29
  rotate_left
  · have Hn := Lib.hid (show dateP s = none from if_neg h29)
    have hz : ((s.size : Int) == 29) = false := by rw [beq_eq_false_iff_ne]; omega
    go_enter Tryz.func59, Tryz.ntmps59
    go_wp2_with fail
    all_goals (go_ret2; exact ⟨Pd2.no Hn.out rfl, Ext.refl _⟩)
  have HR := Lib.hid (fun r => dateP_ref h29 (r := r))
  obtain ⟨O, hO⟩ : ∃ O, dateP s = O := ⟨_, rfl⟩
  rw [hO]
  rw [hO] at HR; clear hO
  have hsz : ∀ i j, (s.extract i j).size = min j 29 - i := fun i j => by rw [ByteArray.size_extract, h29]
  obtain ⟨T1, hx1⟩ : ∃ T, s.extract 5 7 = T := ⟨_, rfl⟩
  obtain ⟨T2, hx2⟩ : ∃ T, s.extract 12 16 = T := ⟨_, rfl⟩
  obtain ⟨T4, hx4⟩ : ∃ T, s.extract 17 19 = T := ⟨_, rfl⟩
  obtain ⟨T5, hx5⟩ : ∃ T, s.extract 20 22 = T := ⟨_, rfl⟩
  obtain ⟨T6, hx6⟩ : ∃ T, s.extract 23 25 = T := ⟨_, rfl⟩
  obtain ⟨T7, hx7⟩ : ∃ T, s.extract 8 11 = T := ⟨_, rfl⟩
  have e1 : T1.size ≤ 4 := by rw [← hx1, hsz]; decide
  have e2 : T2.size ≤ 4 := by rw [← hx2, hsz]; decide
  have e4 : T4.size ≤ 4 := by rw [← hx4, hsz]; decide
  have e5 : T5.size ≤ 4 := by rw [← hx5, hsz]; decide
  have e6 : T6.size ≤ 4 := by rw [← hx6, hsz]; decide
  rw [hx1, hx2, hx4, hx5, hx6, hx7] at HR
  have N1 := Lib.hid (fun w => rd_number T1 w e1)
  have N2 := Lib.hid (fun w => rd_number T2 w e2)
  have N4 := Lib.hid (fun w => rd_number T4 w e4)
  have N5 := Lib.hid (fun w => rd_number T5 w e5)
  have N6 := Lib.hid (fun w => rd_number T6 w e6)
  have B1 : -1 ≤ numS T1 ∧ numS T1 ≤ 99 := by
    rw [numS_2 (by rw [← hx1, hsz]; decide)]; exact num2_bd T1
  have B2 := numS_bd e2
  have B4 : -1 ≤ numS T4 ∧ numS T4 ≤ 99 := by
    rw [numS_2 (by rw [← hx4, hsz]; decide)]; exact num2_bd T4
  have B5 : -1 ≤ numS T5 ∧ numS T5 ≤ 99 := by
    rw [numS_2 (by rw [← hx5, hsz]; decide)]; exact num2_bd T5
  have B6 : -1 ≤ numS T6 ∧ numS T6 ≤ 99 := by
    rw [numS_2 (by rw [← hx6, hsz]; decide)]; exact num2_bd T6
  clear hsz e1 e2 e4 e5 e6
  generalize numS T1 = d at *
  generalize numS T2 = y at *
  generalize numS T4 = h at *
  generalize numS T5 = mi at *
  generalize numS T6 = se at *
  go_enter Tryz.func59, Tryz.ntmps59
  go_wp2_with fail
  go_loopw [4] (fun m wr => ∃ k : Nat, 1 ≤ k ∧ k ≤ 13 ∧ m = .int .i64 (k : Nat) ∧ (∀ j, 1 ≤ j → j < k → ((moS j).toList == T7.toList) = false) ∧ Ext w wr) (fun m _ => 13 - (intOf m).toNat)
  case atStart => exact ⟨1, by omega, by omega, rfl, fun j h1 h2 => by omega, Ext.refl _⟩
  case round =>
    obtain ⟨k, hk1, hk, rfl, hall, hE⟩ := hrel
    have Hall := Lib.hid hall; clear hall
    by_cases hlt : k < 13
    · have hxm := moT_at hk1 (by omega)
      have Hst := Lib.hid (show ((moS k).toList == T7.toList) = false → ∀ j, 1 ≤ j → j < k + 1 → ((moS j).toList == T7.toList) = false from fun he j h1 h2 => by
        by_cases hj : j = k
        · rw [hj]; exact he
        · exact Hall.out j h1 (by omega))
      have Hmf := Lib.hid (show ((moS k).toList == T7.toList) = true → MF T7 k from fun he => ⟨hk1, hk, Hall.out, fun _ => he⟩)
      unfold moT at hxm
      generalize moS k = t at *
      have p3 : IntKind.i64.wrap (3 * (k : Int)) = 3 * (k : Int) := IntWalk.i64_in _ (by omega)
      have p4 : IntKind.i64.wrap (3 * (k : Int) - 3) = 3 * (k : Int) - 3 := IntWalk.i64_in _ (by omega)
      have o5 : (0 : Int) ≤ 3 * (k : Int) - 3 := by omega
      have o6 : (0 : Int) ≤ 3 * (k : Int) := by omega
      have o7 : 3 * (k : Int) - 3 ≤ 3 * (k : Int) := by omega
      have o8 : 3 * (k : Int) ≤ 36 := by omega
      have hlt' : (k : Int) < 13 := by omega
      cases he : (t.toList == T7.toList)
      · have Hst := Lib.hid (Hst.out he)
        go_wp2_with fail
        go_region
        all_goals (try go_wp2_with fail)
        all_goals
          go_roundw
          case rel => exact ⟨k + 1, by omega, by omega, by go_num, Hst.out, hE.drew⟩
          case measure => simp [intOf]; omega
      · have HR := Lib.hid (HR.out k (Hmf.out he))
        have hE := hE.drew
        go_wp2_with fail
        go_region
        have hdy := fun w => rd_Day y k d w (by omega) (by omega) (by omega) (by omega) (by omega)
        by_cases hok : okD y k d
        rotate_left
        · have Hn := Lib.hid (HR.out.trans (dateW_day hok))
          simp only [day2V_no hok] at hdy
          have Hd := Lib.hid hdy; clear hdy hok
          go_wp2_with fail
          have hE := hE.drew
          go_region_held3 (fun _ => True) (trivial)
            (first
              | (go_at_call_of 79 T2; refine (N2.out _).mono ?_; rintro e w2 ⟨rfl, rfl⟩)
              | (go_at_call_of 79 T1; refine (N1.out _).mono ?_; rintro e w2 ⟨rfl, rfl⟩)
              | (go_at_call 78; refine (Hd.out _).mono ?_; rintro e w2 ⟨rfl, rfl⟩))
          go_wp2_with fail
          have hE := hE.drew
          go_region_held3 (fun _ => True) (trivial)
            (first
              | (go_at_call_of 79 T4; refine (N4.out _).mono ?_; rintro e w2 ⟨rfl, rfl⟩)
              | (go_at_call_of 79 T5; refine (N5.out _).mono ?_; rintro e w2 ⟨rfl, rfl⟩)
              | (go_at_call_of 79 T6; refine (N6.out _).mono ?_; rintro e w2 ⟨rfl, rfl⟩))
          go_wp2_with fail
          all_goals (go_ret2; exact ⟨Pd2.no Hn.out rfl, hE⟩)
        simp only [day2V_yes hok] at hdy
        have Hd := Lib.hid hdy; clear hdy
        obtain ⟨e0, e1⟩ := day_bd hok
        have Hok := Lib.hid hok; clear hok
        have Hsec := Lib.hid (show secN y k d h mi se = 86400 * dayN y k d + 3600 * h + 60 * mi + se from rfl)
        generalize dayN y k d = D at *
        go_wp2_with fail
        have hE := hE.drew
        go_region_held3 (fun _ => True) (trivial)
          (first
            | (go_at_call_of 79 T2; refine (N2.out _).mono ?_; rintro e w2 ⟨rfl, rfl⟩)
            | (go_at_call_of 79 T1; refine (N1.out _).mono ?_; rintro e w2 ⟨rfl, rfl⟩)
            | (go_at_call 78; refine (Hd.out _).mono ?_; rintro e w2 ⟨rfl, rfl⟩))
        go_wp2_with fail
        have hE := hE.drew
        go_region_held3 (fun _ => True) (trivial)
          (first
            | (go_at_call_of 79 T4; refine (N4.out _).mono ?_; rintro e w2 ⟨rfl, rfl⟩)
            | (go_at_call_of 79 T5; refine (N5.out _).mono ?_; rintro e w2 ⟨rfl, rfl⟩)
            | (go_at_call_of 79 T6; refine (N6.out _).mono ?_; rintro e w2 ⟨rfl, rfl⟩))
        by_cases a0 : h < 0
        · have Hn := Lib.hid (HR.out.trans (dateW_bad (by omega)))
          go_wp2_with fail
          all_goals (go_ret2; exact ⟨Pd2.no Hn.out rfl, hE⟩)
        by_cases a1 : 23 < h
        · have Hn := Lib.hid (HR.out.trans (dateW_bad (by omega)))
          go_wp2_with fail
          all_goals (go_ret2; exact ⟨Pd2.no Hn.out rfl, hE⟩)
        by_cases a2 : mi < 0
        · have Hn := Lib.hid (HR.out.trans (dateW_bad (by omega)))
          go_wp2_with fail
          all_goals (go_ret2; exact ⟨Pd2.no Hn.out rfl, hE⟩)
        by_cases a3 : 59 < mi
        · have Hn := Lib.hid (HR.out.trans (dateW_bad (by omega)))
          go_wp2_with fail
          all_goals (go_ret2; exact ⟨Pd2.no Hn.out rfl, hE⟩)
        by_cases a4 : se < 0
        · have Hn := Lib.hid (HR.out.trans (dateW_bad (by omega)))
          go_wp2_with fail
          all_goals (go_ret2; exact ⟨Pd2.no Hn.out rfl, hE⟩)
        by_cases a5 : 59 < se
        · have Hn := Lib.hid (HR.out.trans (dateW_bad (by omega)))
          go_wp2_with fail
          all_goals (go_ret2; exact ⟨Pd2.no Hn.out rfl, hE⟩)
        have Hn := Lib.hid (HR.out.trans (dateW_ok Hok.out (by omega)))
        rw [Hsec.out] at Hn
        have hfm := Lib.hid (fun w => rd_Format (86400 * D + 3600 * h + 60 * mi + se) w (by omega) (by omega))
        cases hq : ((fmtS (86400 * D + 3600 * h + 60 * mi + se)).toList == s.toList)
        all_goals
          rw [hq] at Hn
          go_wp2_with fail
          refine (hfm.out _).mono ?_; rintro e w4 ⟨rfl, hb4⟩
          go_wp2_with fail
          all_goals (go_ret2; exact ⟨Pd2.yes Hn.out, hE.trans hb4⟩)
    · obtain rfl : k = 13 := by omega
      have HR := Lib.hid (HR.out 13 ⟨by omega, by omega, Hall.out, fun e => absurd e (by decide)⟩)
      have hE := hE.drew
      go_wp2_with fail
      go_region
      have Hn := Lib.hid (HR.out.trans (dateW_day (fun e => by have := e.2.2.2.1; omega)))
      have hdy := fun w => rd_Day y 13 d w (by omega) (by omega) (by omega) (by omega) (by omega)
      simp only [day2V_no (fun e : okD y 13 d => by have := e.2.2.2.1; omega)] at hdy
      have Hd := Lib.hid hdy; clear hdy
      go_wp2_with fail
      have hE := hE.drew
      go_region_held3 (fun _ => True) (trivial)
        (first
          | (go_at_call_of 79 T2; refine (N2.out _).mono ?_; rintro e w2 ⟨rfl, rfl⟩)
          | (go_at_call_of 79 T1; refine (N1.out _).mono ?_; rintro e w2 ⟨rfl, rfl⟩)
          | (go_at_call 78; refine (Hd.out _).mono ?_; rintro e w2 ⟨rfl, rfl⟩))
      go_wp2_with fail
      have hE := hE.drew
      go_region_held3 (fun _ => True) (trivial)
        (first
          | (go_at_call_of 79 T4; refine (N4.out _).mono ?_; rintro e w2 ⟨rfl, rfl⟩)
          | (go_at_call_of 79 T5; refine (N5.out _).mono ?_; rintro e w2 ⟨rfl, rfl⟩)
          | (go_at_call_of 79 T6; refine (N6.out _).mono ?_; rintro e w2 ⟨rfl, rfl⟩))
      go_wp2_with fail
      all_goals (go_ret2; exact ⟨Pd2.no Hn.out rfl, hE⟩)
end Go.Proofs.YtocniclkooiggaaGreatDoor

namespace Go.Proofs.YtocniclkooiggaaGreatDoor
open Go.RowKit

set_option maxHeartbeats 2000000 in
set_option maxRecDepth 100000 in
theorem ref_Date (A : Option Addr) (n c : Nat) (fs : List Fd) (name : ByteArray) (w : World) (hf : RdF w A n fs)
    (hn : n ≤ 1073741824) (hs : name.size ≤ 4611686018427387904) (hsz : Bsz 1048576 fs) :
    Calls Tryz.prog 38 #[.slice A n c, .string name] w fun e w' => Pd2 (dateS fs name) e ∧ Ext w w' := by
  have HA := Lib.hid (ref_All A n c fs name w hf hn hs (fun f hf => Nat.le_trans (hsz f hf).1 (by decide)))
  have hv := bsz_vals (name := name) hsz
  have Hd := Lib.hid (show dateS fs name = oneP (allS fs name) from rfl)
  generalize dateS fs name = D at *
  generalize allS fs name = L at *
  have Hv := Lib.hid hv
  clear hv
  go_enter Tryz.func38, Tryz.ntmps38
  go_wp2_with fail
  refine HA.out.mono ?_; rintro e w1 ⟨A1, n1, c1, rfl, hr1, hc1, hb1⟩
  have hl1 := hr1.lenS
  by_cases h1 : n1 = 1
  · subst h1
    match L, hl1 with
    | [v], _ =>
    obtain ⟨b, o, rfl, hc⟩ := hr1.atS (k := 0) Nat.one_pos
    rw [Nat.add_zero] at hc
    have hc : w1.cell? ⟨b, o, none⟩ = some (.string v) := hc
    have HD := Lib.hid (show D = dateP v from Hd.out)
    have Hvs := Lib.hid (Hv.out v (List.mem_cons_self ..))
    have hP := rd_Parse v
    generalize dateP v = P at *
    have HP := Lib.hid hP; clear hP hl1
    go_wp2_with fail
    refine (HP.out _ (by have := Hvs.out; omega)).mono ?_; rintro e w2 ⟨⟨k, rfl, hk⟩, hb2⟩
    have Hk := Lib.hid hk; clear hk
    go_wp2_with fail
    go_ret2
    exact ⟨⟨k, by rw [HD.out]; rfl, fun j hj => Hk.out j (by rw [← HD.out]; exact hj)⟩, hb1.trans hb2⟩
  · have hz : ((n1 : Int) != 1) = true := by simp; omega
    have HD := Lib.hid (show D = none by rw [Hd.out, oneP_no (by omega)])
    clear hl1 h1
    go_wp2_with fail
    go_ret2
    exact ⟨Pd2.no HD.out rfl, hb1⟩
end Go.Proofs.YtocniclkooiggaaGreatDoor

namespace Go.Proofs.YtocniclkooiggaaGreatDoor
open Go.RowKit

def gsC (C N : Bool) : Option Int → Option Int → Option Int
  | some x, some y => if C && decide (y < x) then some (min (if N then 10000 else 86400000) (1000 * (x - y) / 10)) else none
  | _, _ => none
theorem gsC_eq (st : Int) (a b : Option Int) : gsO st a b = gsC (cacS st) (negS st) a b := by
  cases a <;> cases b <;> rfl
set_option maxHeartbeats 2000000 in
set_option maxRecDepth 100000 in
theorem ref_Negative (st : Int) (w : World) :
    Calls Tryz.prog 40 #[.int .i64 st] w fun e w' => e = .returned (.bool (negS st)) ∧ w' = w := by
  have Hn := Lib.hid (show negS st = (st == 404 || st == 405 || st == 410 || st == 414 || st == 501) from rfl)
  generalize negS st = N at *
  cases h1 : (st == 404)
  rotate_left
  · have HL := Lib.hid (show true = N by rw [Hn.out, h1]; rfl)
    go_enter Tryz.func40, Tryz.ntmps40
    go_wp2_with fail
    go_ret
    exact ⟨ret_b HL.out, rfl⟩
  cases h2 : (st == 405)
  rotate_left
  · have HL := Lib.hid (show true = N by rw [Hn.out, h1, h2]; rfl)
    go_enter Tryz.func40, Tryz.ntmps40
    go_wp2_with fail
    go_ret
    exact ⟨ret_b HL.out, rfl⟩
  cases h3 : (st == 410)
  rotate_left
  · have HL := Lib.hid (show true = N by rw [Hn.out, h1, h2, h3]; rfl)
    go_enter Tryz.func40, Tryz.ntmps40
    go_wp2_with fail
    go_ret
    exact ⟨ret_b HL.out, rfl⟩
  cases h4 : (st == 414)
  rotate_left
  · have HL := Lib.hid (show true = N by rw [Hn.out, h1, h2, h3, h4]; rfl)
    go_enter Tryz.func40, Tryz.ntmps40
    go_wp2_with fail
    go_ret
    exact ⟨ret_b HL.out, rfl⟩
  cases h5 : (st == 501)
  rotate_left
  · have HL := Lib.hid (show true = N by rw [Hn.out, h1, h2, h3, h4, h5]; rfl)
    go_enter Tryz.func40, Tryz.ntmps40
    go_wp2_with fail
    go_ret
    exact ⟨ret_b HL.out, rfl⟩
  · have HL := Lib.hid (show false = N by rw [Hn.out, h1, h2, h3, h4, h5]; rfl)
    go_enter Tryz.func40, Tryz.ntmps40
    go_wp2_with fail
    go_ret
    exact ⟨ret_b HL.out, rfl⟩

theorem Rd.atI {w : World} {A : Option Addr} {n : Nat} {l : List Int} (h : Rd w 1 A n (l.map (Value.int .i64))) {k : Nat} (hk : k < l.length) :
    ∃ b o, A = some ⟨b, o, none⟩ ∧ w.cell? ⟨b, o + k, none⟩ = some (.int .i64 l[k]) := by
  obtain ⟨b, o, e, hc⟩ := h.2 (by rw [List.length_map]; omega)
  exact ⟨b, o, e, hc k _ (by rw [List.getElem?_map, List.getElem?_eq_getElem hk]; rfl)⟩
theorem cac_len : cacL.length = 7 := rfl
theorem cac_hit {st : Int} {k : Nat} (hk : k < cacL.length) (h : cacL[k] = st) : cacS st = true := by
  unfold cacS
  rw [Bool.or_eq_true]
  exact .inl (List.contains_iff_mem.2 (h ▸ List.getElem_mem hk))
theorem cac_miss {st : Int} (h : ∀ j (hj : j < cacL.length), cacL[j] ≠ st) : cacS st = negS st := by
  unfold cacS
  rw [show cacL.contains st = false from Bool.eq_false_iff.2 fun e => by
    obtain ⟨j, hj, he⟩ := List.getElem_of_mem (List.contains_iff_mem.1 e)
    exact h j hj he, Bool.false_or]
set_option maxHeartbeats 2000000 in
set_option maxRecDepth 100000 in
theorem ref_Cacheable (st : Int) (w : World) :
    Calls Tryz.prog 39 #[.int .i64 st] w fun e w' => e = .returned (.bool (cacS st)) ∧ Ext w w' := by
  have HN := Lib.hid (ref_Negative st)
  have Hh := Lib.hid (fun (k : Nat) (hk : k < cacL.length) => @cac_hit st k hk)
  have Hm := Lib.hid (@cac_miss st)
  generalize cacS st = C at *
  generalize negS st = N at *
  have hr : Rd (w.alloc (.cells #[.int .i64 200, .int .i64 203, .int .i64 204, .int .i64 206, .int .i64 300, .int .i64 301, .int .i64 308] 3)) 1 (some ⟨w.heap.size, 0, none⟩) 7 (cacL.map (Value.int .i64)) := Rd.lit w #[.int .i64 200, .int .i64 203, .int .i64 204, .int .i64 206, .int .i64 300, .int .i64 301, .int .i64 308] 3 rfl 1 7 rfl
  have HR := Lib.hid hr
  clear hr
  go_enter Tryz.func39, Tryz.ntmps39
  go_wp2_with fail
  have HE := Lib.hid ((Ext.refl w).alloc (.cells #[.int .i64 200, .int .i64 203, .int .i64 204, .int .i64 206, .int .i64 300, .int .i64 301, .int .i64 308] 3))
  generalize w.alloc (.cells #[.int .i64 200, .int .i64 203, .int .i64 204, .int .i64 206, .int .i64 300, .int .i64 301, .int .i64 308] 3) = w1 at *
  generalize w.heap.size = bN at *
  go_loopw [7] (fun i wr => ∃ k, k ≤ 7 ∧ i = .int .i64 (k : Nat) ∧ (∀ j (hj : j < cacL.length), j < k → cacL[j] ≠ st) ∧ Ext w1 wr) (fun i _ => 7 - (intOf i).toNat)
  case atStart => exact ⟨0, Nat.zero_le _, rfl, fun j _ h => by omega, Ext.refl _⟩
  case round =>
    obtain ⟨k, hk, rfl, hall, hbr⟩ := hrel
    by_cases hlt : k < 7
    · have hlt' : k < cacL.length := hlt
      obtain ⟨b, o, hbo, hc0⟩ := (HR.out.ext hbr).atI hlt'
      injection hbo with hbo
      injection hbo with e1 e2
      subst e1; subst e2
      rw [Nat.zero_add] at hc0
      have Hhk := Lib.hid (fun h => Hh.out _ hlt' h)
      have Hal := Lib.hid (fun (h : cacL[k] ≠ st) => show ∀ j (hj : j < cacL.length), j < k + 1 → cacL[j] ≠ st from fun j hj hjk => by
        rcases Nat.lt_or_ge j k with hj2 | hj2
        · exact hall j hj hj2
        · obtain rfl : j = k := by omega
          exact h)
      generalize cacL[k] = x at *
      by_cases hx : x = st
      · have HL := Lib.hid (Hhk.out hx)
        have hz : (x == st) = true := by rw [hx]; simp
        clear hx
        go_wp2_with fail
        go_ret
        exact ⟨ret_b HL.out.symm, HE.out.trans hbr⟩
      · have hz : (x == st) = false := i_ne hx
        have Hal2 := Lib.hid (Hal.out hx)
        clear hx hall
        go_wp2_with fail
        go_roundw
        case rel => exact ⟨k + 1, by omega, by go_num, Hal2.out, hbr⟩
        case measure => simp [intOf]; omega
    · obtain rfl : k = 7 := by omega
      have HC := Lib.hid (Hm.out fun j hj => hall j hj hj)
      clear hall hlt
      go_wp2_with fail
      refine (HN.out _).mono ?_; rintro e w2 ⟨rfl, rfl⟩
      go_wp2_with fail
      go_ret
      exact ⟨ret_b HC.out.symm, HE.out.trans hbr⟩

set_option maxHeartbeats 8000000 in
set_option maxRecDepth 100000 in
theorem ref14_Of (st : Int) (A : Option Addr) (n c : Nat) (fs : List Fd) (w : World) (hf : RdF w A n fs) (hn : n ≤ 1073741824) (hsz : Bsz 1048576 fs) :
    Calls Tryz.prog 23 #[.int .i64 st, .slice A n c] w fun e w' => e = .returned (pairV (ofS st fs)) ∧ Ext w w' := by
  have HP := Lib.hid (ref_Directives A n c fs w hf hn hsz)
  have HD1 := Lib.hid (fun w' (h : Ext w w') => ref_Date A n c fs dateN w' (hf.ext h) hn (by decide) hsz)
  have HD2 := Lib.hid (fun w' (h : Ext w w') => ref_Date A n c fs expN w' (hf.ext h) hn (by decide) hsz)
  have HD3 := Lib.hid (fun w' (h : Ext w w') => ref_Date A n c fs lmN w' (hf.ext h) hn (by decide) hsz)
  have HA := Lib.hid (fun w' (h : Ext w w') => ref_All A n c fs expN w' (hf.ext h) hn (by decide) (fun f hf => Nat.le_trans (hsz f hf).1 (by decide)))
  have HC := Lib.hid (ref_Cacheable st)
  have HN := Lib.hid (ref_Negative st)
  have Ho := Lib.hid (show ofS st fs = if 0 ≤ (ccD fs).n1 then ((1000 * (ccD fs).n1, 1) : Int × Int) else if 0 ≤ (ccD fs).n0 then (1000 * (ccD fs).n0, 2) else if decide (0 < (allS fs expN).length) then (exO (dateS fs dateN) (dateS fs expN), 3) else gE (gsC (cacS st) (negS st) (dateS fs dateN) (dateS fs lmN)) from by rw [← gsC_eq]; rfl)
  have b1 := fun k (h : dateS fs dateN = some k) => dateS_bd h
  have b2 := fun k (h : dateS fs expN = some k) => dateS_bd h
  have b3 := fun k (h : dateS fs lmN = some k) => dateS_bd h
  have hbd := ccD_bd fs
  have hln : (allS fs expN).length ≤ n := by
    have := allS_len fs expN n
    rw [List.take_of_length_le (by rw [hf.lenF]; exact Nat.le_refl _)] at this
    exact this
  generalize ofS st fs = O at *
  generalize ccD fs = D at *
  generalize dateS fs dateN = o1 at *
  generalize dateS fs expN = o2 at *
  generalize dateS fs lmN = o3 at *
  generalize cacS st = C at *
  generalize negS st = N at *
  generalize allS fs expN = L at *
  have Hln := Lib.hid hln
  have B1 := Lib.hid b1; have B2 := Lib.hid b2; have B3 := Lib.hid b3; clear b1 b2 b3 hln
  obtain ⟨⟨u1, u2⟩, ⟨u3, u4⟩, _, _, _, _⟩ := hbd
  have hE1 : ∀ w1 wd, Ext w w1 → ExtB w1.heap.size (w1.alloc (.cells (dArr zeroD) 28)) wd → Ext w wd := fun w1 wd h k => (h.alloc _).growB k h.size
  have HE1 := Lib.hid hE1; clear hE1
  go_enter Tryz.func23, Tryz.ntmps23
  go_wp2_with fail
  refine HP.out.mono ?_; rintro e w1 ⟨rfl, hb1⟩
  by_cases g1 : 0 ≤ D.n1
  · have HL := Lib.hid (show Value.tuple #[.int .i64 (1000 * D.n1), .int .i64 (1)] = pairV O by rw [Ho.out, if_pos g1]; rfl)
    have m2 : 0 ≤ 1000 * D.n1 := by omega
    have m3 : 1000 * D.n1 ≤ 2147483647000 := by omega
    go_wp2_with (first | (refine wpList_storeB rfl 28 (.tmp 6) (.tmp 15) rfl rfl w1.heap.size _ rfl rfl 28 _ (Blk.new w1 _ _) infoD rfl (dArr_one D) ?_; intro wd hBd hxd; have d6 : wd.cell? ⟨w1.heap.size, 6, none⟩ = some (.int .i64 D.n0) := hBd.cell 6; have d7 : wd.cell? ⟨w1.heap.size, 7, none⟩ = some (.int .i64 D.n1) := hBd.cell 7))
    go_ret2
    exact ⟨ret_v HL.out, HE1.out _ _ hb1 hxd⟩
  by_cases g0 : 0 ≤ D.n0
  · have HL := Lib.hid (show Value.tuple #[.int .i64 (1000 * D.n0), .int .i64 (2)] = pairV O by rw [Ho.out, if_neg g1, if_pos g0]; rfl)
    have m2 : 0 ≤ 1000 * D.n0 := by omega
    have m3 : 1000 * D.n0 ≤ 2147483647000 := by omega
    go_wp2_with (first | (refine wpList_storeB rfl 28 (.tmp 6) (.tmp 15) rfl rfl w1.heap.size _ rfl rfl 28 _ (Blk.new w1 _ _) infoD rfl (dArr_one D) ?_; intro wd hBd hxd; have d6 : wd.cell? ⟨w1.heap.size, 6, none⟩ = some (.int .i64 D.n0) := hBd.cell 6; have d7 : wd.cell? ⟨w1.heap.size, 7, none⟩ = some (.int .i64 D.n1) := hBd.cell 7))
    go_ret2
    exact ⟨ret_v HL.out, HE1.out _ _ hb1 hxd⟩
  have HO := Lib.hid (show O = if decide (0 < L.length) then (exO o1 o2, 3) else gE (gsC C N o1 o3) by rw [Ho.out, if_neg g1, if_neg g0])
  clear Ho
  go_wp2_with (first | (refine wpList_storeB rfl 28 (.tmp 6) (.tmp 15) rfl rfl w1.heap.size _ rfl rfl 28 _ (Blk.new w1 _ _) infoD rfl (dArr_one D) ?_; intro wd hBd hxd; have d6 : wd.cell? ⟨w1.heap.size, 6, none⟩ = some (.int .i64 D.n0) := hBd.cell 6; have d7 : wd.cell? ⟨w1.heap.size, 7, none⟩ = some (.int .i64 D.n1) := hBd.cell 7))
  have h2 := HE1.out _ _ hb1 hxd
  refine (HD1.out _ h2).mono ?_; rintro e w3 ⟨⟨k1, rfl, hk1⟩, hb3⟩
  have h3 := h2.trans hb3
  go_wp2_with fail
  refine (HA.out _ h3).mono ?_; rintro e w4 ⟨A4, n4, c4, rfl, hr4, hc4, hb4⟩
  have h4 := h3.trans hb4
  have hl4 := hr4.lenS
  have hn4 : n4 ≤ 1073741824 := by have := Hln.out; omega
  clear hr4
  by_cases hp : 0 < n4
  · have HL := Lib.hid (show O = (exO o1 o2, 3) by rw [HO.out, decide_eq_true (by omega)]; rfl)
    clear HO hl4
    go_wp2_with fail
    refine (HD2.out _ h4).mono ?_; rintro e w5 ⟨⟨k2, rfl, hk2⟩, hb5⟩
    have h5 := h4.trans hb5
    cases o2 with
    | none =>
      have HV := Lib.hid (show Value.tuple #[.int .i64 0, .int .i64 3] = pairV O by rw [HL.out]; cases o1 <;> rfl)
      go_wp2_with fail
      go_ret2
      exact ⟨ret_v HV.out, h5⟩
    | some b =>
      obtain rfl := hk2 _ rfl
      cases o1 with
      | none =>
        have HV := Lib.hid (show Value.tuple #[.int .i64 0, .int .i64 3] = pairV O by rw [HL.out]; rfl)
        go_wp2_with fail
        go_ret2
        exact ⟨ret_v HV.out, h5⟩
      | some a =>
        obtain rfl := hk1 _ rfl
        obtain ⟨a0, a1⟩ := B1.out _ rfl
        obtain ⟨c0, c1⟩ := B2.out _ rfl
        by_cases hlt : k1 < k2
        · have HV := Lib.hid (show Value.tuple #[.int .i64 (1000 * (k2 - k1)), .int .i64 3] = pairV O by rw [HL.out]; show _ = pairV (1000 * max 0 (k2 - k1), 3); rw [show 1000 * max 0 (k2 - k1) = 1000 * (k2 - k1) by omega]; rfl)
          have m2 : 0 ≤ 1000 * (k2 - k1) := by omega
          have m3 : 1000 * (k2 - k1) ≤ 253402300799000 := by omega
          go_wp2_with fail
          go_ret2
          exact ⟨ret_v HV.out, h5⟩
        · have HV := Lib.hid (show Value.tuple #[.int .i64 0, .int .i64 3] = pairV O by rw [HL.out]; show _ = pairV (1000 * max 0 (k2 - k1), 3); rw [show 1000 * max 0 (k2 - k1) = 0 by omega]; rfl)
          go_wp2_with fail
          go_ret2
          exact ⟨ret_v HV.out, h5⟩
  · have HL := Lib.hid (show O = gE (gsC C N o1 o3) by rw [HO.out, decide_eq_false (by omega), if_neg (by decide)])
    obtain rfl : n4 = 0 := by omega
    clear HO hl4 hp
    go_wp2_with fail
    refine (HD3.out _ h4).mono ?_; rintro e w5 ⟨⟨k3, rfl, hk3⟩, hb5⟩
    have h5 := h4.trans hb5
    go_wp2_with fail
    refine (HC.out _).mono ?_; rintro e w6 ⟨rfl, hb6⟩
    have h6 := h5.trans hb6
    cases C
    · have HV := Lib.hid (show Value.tuple #[.int .i64 0, .int .i64 5] = pairV O by rw [HL.out]; cases o1 <;> cases o3 <;> rfl)
      go_wp2_with fail
      go_ret2
      exact ⟨ret_v HV.out, h6⟩
    cases o1 with
    | none =>
      have HV := Lib.hid (show Value.tuple #[.int .i64 0, .int .i64 5] = pairV O by rw [HL.out]; rfl)
      go_wp2_with fail
      go_ret2
      exact ⟨ret_v HV.out, h6⟩
    | some a =>
      obtain rfl := hk1 _ rfl
      obtain ⟨a0, a1⟩ := B1.out _ rfl
      cases o3 with
      | none =>
        have HV := Lib.hid (show Value.tuple #[.int .i64 0, .int .i64 5] = pairV O by rw [HL.out]; rfl)
        go_wp2_with fail
        go_ret2
        exact ⟨ret_v HV.out, h6⟩
      | some b =>
        obtain rfl := hk3 _ rfl
        obtain ⟨c0, c1⟩ := B3.out _ rfl
        have hG : O = gE (if true && decide (k3 < k1) then some (min (if N then 10000 else 86400000) (1000 * (k1 - k3) / 10)) else none) := HL.out
        rw [Bool.true_and] at hG
        by_cases hlt : k3 < k1
        rotate_left
        · have HV := Lib.hid (show Value.tuple #[.int .i64 0, .int .i64 5] = pairV O by rw [hG, decide_eq_false hlt]; first | rfl | done)
          clear hG
          have hge : k1 ≤ k3 := by omega
          go_wp2_with fail
          go_ret2
          exact ⟨ret_v HV.out, h6⟩
        · have HV := Lib.hid (show pairV (min (if N then 10000 else 86400000) (1000 * (k1 - k3) / 10), 4) = pairV O by rw [hG, decide_eq_true hlt]; rfl)
          clear hG
          have hge : ¬ k1 ≤ k3 := by omega
          have q1 : (1000 * (k1 - k3)).tdiv 10 = 1000 * (k1 - k3) / 10 := by rw [Int.tdiv_eq_ediv_of_nonneg (by omega)]
          have q0 : 0 ≤ 1000 * (k1 - k3) / 10 := by omega
          have q2 : 1000 * (k1 - k3) / 10 ≤ 25340230079900 := by omega
          have q3 : 0 ≤ 1000 * (k1 - k3) := by omega
          have q4 : 1000 * (k1 - k3) ≤ 253402300799000 := by omega
          go_wp2_with fail
          refine (HN.out _).mono ?_; rintro e w7 ⟨rfl, rfl⟩
          cases N
          all_goals
            go_wp2_with fail
            go_ret2
            exact ⟨ret_v (by rw [← HV.out]; first | rfl | (refine congrArg (fun x => Value.tuple #[.int .i64 x, .int .i64 4]) ?_; simp only [Bool.false_eq_true, if_false, if_true]; omega)), h6⟩

theorem of_kind (st : Int) (fs : List Fd) : decide ((ofS st fs).2 ≤ 3) = xplS fs := by
  unfold ofS xplS
  by_cases g1 : 0 ≤ (ccD fs).n1
  · rw [if_pos g1, decide_eq_true g1]; rfl
  rw [if_neg g1, decide_eq_false g1]
  by_cases g0 : 0 ≤ (ccD fs).n0
  · rw [if_pos g0, decide_eq_true g0]; rfl
  rw [if_neg g0, decide_eq_false g0]
  cases hasF fs expN
  · rw [if_neg (by decide)]
    cases gsS st fs <;> rfl
  · rfl
end Go.Proofs.YtocniclkooiggaaGreatDoor

namespace Go.Proofs.YtocniclkooiggaaGreatDoor
open Go.RowKit

theorem gl_of {w : World} (h : w.ShapedOpen Tryz.prog) : Gl w :=
  Go.Proofs.cell_of_shapedOpen_int (zero := #[.int .i64 0]) (t := 3) h (of_decide_eq_true (by kernel_rfl)) (by kernel_rfl) rfl (by kernel_rfl) (by kernel_rfl) Tryz.underlying3
theorem u8_wf {x : Int} (h : (Lit.int .u8 x).wf = true) : 0 ≤ x ∧ x ≤ 255 := by
  simp [Lit.wf] at h
  have e1 : IntKind.u8.min = 0 := rfl
  have e2 : IntKind.u8.max = 255 := rfl
  omega
end Go.Proofs.YtocniclkooiggaaGreatDoor

namespace Go.Proofs.YtocniclkooiggaaGreatDoor
open Go.RowKit

theorem eqlR (d : D) (w : World) : (binOp .eql 28 (.agg (dArr d)) (.agg (dArr d))).run Tryz.prog w = .ok (.bool true) w := by
  have hS : Tryz.prog.underlying 28 = some (.struct (Tryz.prog.fieldsOf 28)) := by kernel_rfl
  have hp : Tryz.prog.stoodInHeld 28 = false := by kernel_rfl
  have u3 := Tryz.underlying3
  have u4 := Tryz.underlying4
  rw [run_eql_struct, show (10000 : Nat) = 9998 + 1 + 1 from rfl, run_equalIn_agg w (9998 + 1) 28 _ _ hS hp]
  simp only [Program.fieldsOf, Tryz.underlying28, dArr]
  go_simp
theorem eqlP (d : D) (w : World) : (binOp .eql 40 (.agg (dArr d)) (.agg (dArr d))).run Tryz.prog w = .ok (.bool true) w := by
  have hS : Tryz.prog.underlying 40 = some (.struct (Tryz.prog.fieldsOf 40)) := by kernel_rfl
  have hp : Tryz.prog.stoodInHeld 40 = false := by kernel_rfl
  have u3 := Tryz.underlying3
  have u4 := Tryz.underlying4
  rw [run_eql_struct, show (10000 : Nat) = 9998 + 1 + 1 from rfl, run_equalIn_agg w (9998 + 1) 40 _ _ hS hp]
  simp only [Program.fieldsOf, Tryz.underlying40, dArr]
  go_simp

/-- Are there more bytes than the statements use? -/
def lgS (ss : List ByteArray) : Bool := decide (3000 < ss.length + totS ss)
def xccN : ByteArray := ⟨#[120, 45, 99, 97, 99, 104, 101, 45, 99, 111, 110, 116, 114, 111, 108]⟩
def nsV : ByteArray := ⟨#[110, 111, 45, 115, 116, 111, 114, 101]⟩
/-- Cache-Control fields with these values, with another field ahead of them. -/
def fldsV (ss : List ByteArray) : List Fd := (xccN, nsV) :: ss.map fun v => (ccN, v)
theorem fldsV_step {ss : List ByteArray} {k : Nat} (h : k < ss.length) : fldsV (ss.take (k + 1)) = fldsV (ss.take k) ++ [(ccN, ss[k])] := by
  unfold fldsV; rw [take_step ss k h, List.map_append]; rfl
theorem fldsV_len (ss : List ByteArray) : (fldsV ss).length = ss.length + 1 := by simp [fldsV]
theorem all_flds (ss : List ByteArray) : allS (fldsV ss) ccN = ss := by
  unfold allS fldsV
  rw [List.filter_cons, if_neg (by decide +kernel)]
  have h : ∀ v : ByteArray, isN ccN (ccN, v) = true := fun v => by unfold isN; exact beq_self_eq_true _
  rw [List.filter_eq_self.2 (fun f hf => by obtain ⟨v, _, rfl⟩ := List.mem_map.1 hf; exact h v), List.map_map]
  exact List.map_id _
theorem bsz_flds {B : Nat} {ss : List ByteArray} (h : ∀ v ∈ ss, v.size ≤ B) (hB : 15 ≤ B) : Bsz B (fldsV ss) := by
  intro f hf
  rcases List.mem_cons.1 hf with rfl | hf
  · exact ⟨Nat.le_trans (show xccN.size ≤ 15 by decide) hB, Nat.le_trans (show nsV.size ≤ 15 by decide) hB⟩
  · obtain ⟨v, hv, rfl⟩ := List.mem_map.1 hf
    exact ⟨Nat.le_trans (show ccN.size ≤ 15 by decide) hB, h v hv⟩
theorem totS_mem {ss : List ByteArray} {v : ByteArray} (h : v ∈ ss) : v.size ≤ totS ss := by
  obtain ⟨i, hi, rfl⟩ := List.getElem_of_mem h
  have := totS_at hi; omega
theorem totS_step {l : List ByteArray} {k : Nat} (h : k < l.length) : totS (l.take (k + 1)) = totS (l.take k) + l[k].size := by
  rw [take_step l k h]; unfold totS; rw [List.map_append, List.sum_append]; simp

end Go.Proofs.YtocniclkooiggaaGreatDoor

namespace Go.Proofs.YtocniclkooiggaaGreatDoor
open Go.RowKit

def awV : ByteArray := ⟨#[109, 97, 120, 45, 97, 103, 101, 61, 54, 48, 44, 32, 80, 117, 98, 108, 105, 99]⟩
theorem aw_dir : dirS [awV] = ⟨false, false, false, true, false, false, 60, -1, -1, -1, -1, -1⟩ := by kernel_rfl

end Go.Proofs.YtocniclkooiggaaGreatDoor

namespace Go.Proofs.YtocniclkooiggaaGreatDoor
open Go.RowKit

theorem ret_ii {a b : Int} (h : a = b) : Ending.returned (.int .i64 a) = .returned (.int .i64 b) := by rw [h]
theorem least_any (a b : Int) (w : World) : Calls Tryz.prog 51 #[.int .i64 a, .int .i64 b] w fun e w' => e = .returned (.int .i64 (lst a b)) ∧ Ext w w' := dir_least a b w
theorem ref_time (n : Int) (w : World) : Calls Tryz.prog 35 #[.int .i64 n] w fun e w' => e = .returned (.int .i64 (nmT n)) ∧ Ext w w' := by
  go_enter Tryz.func35, Tryz.ntmps35
  go_wp2_with fail
  go_ret
  exact ⟨rfl, Ext.refl _⟩
end Go.Proofs.YtocniclkooiggaaGreatDoor

namespace Go.Proofs.YtocniclkooiggaaGreatDoor
open Go.RowKit

set_option maxHeartbeats 16000000 in
set_option maxRecDepth 100000 in
theorem ref_Normal (x : D) (w : World) : Calls Tryz.prog 21 #[.agg (dArr x)] w fun e w' => e = .returned (.agg (dArr (nmD x))) ∧ Ext w w' := by
  obtain ⟨a0, a1, a2, a3, a4, a5, p0, p1, p2, p3, p4, p5⟩ := x
  have hA : Blk ((w.alloc (.cells (dArr ⟨a0, a1, a2, a3, a4, a5, p0, p1, p2, p3, p4, p5⟩) 28)).alloc (.cells #[.bool false, .bool false, .bool false, .bool false, .bool false, .bool false, .int .i64 0, .int .i64 0, .int .i64 0, .int .i64 0, .int .i64 0, .int .i64 0] 28)) w.heap.size 28 (dArr ⟨a0, a1, a2, a3, a4, a5, p0, p1, p2, p3, p4, p5⟩) := (Blk.new w 28 (dArr ⟨a0, a1, a2, a3, a4, a5, p0, p1, p2, p3, p4, p5⟩)).alloc (.cells (dArr zeroD) 28)
  have hR : Blk ((w.alloc (.cells (dArr ⟨a0, a1, a2, a3, a4, a5, p0, p1, p2, p3, p4, p5⟩) 28)).alloc (.cells #[.bool false, .bool false, .bool false, .bool false, .bool false, .bool false, .int .i64 0, .int .i64 0, .int .i64 0, .int .i64 0, .int .i64 0, .int .i64 0] 28)) (w.heap.size + 1) 28 (dArr zeroD) := by
    have h := Blk.new (w.alloc (.cells (dArr ⟨a0, a1, a2, a3, a4, a5, p0, p1, p2, p3, p4, p5⟩) 28)) 28 (dArr zeroD)
    rw [World.size_alloc] at h
    exact h
  have hEE : Ext w ((w.alloc (.cells (dArr ⟨a0, a1, a2, a3, a4, a5, p0, p1, p2, p3, p4, p5⟩) 28)).alloc (.cells #[.bool false, .bool false, .bool false, .bool false, .bool false, .bool false, .int .i64 0, .int .i64 0, .int .i64 0, .int .i64 0, .int .i64 0, .int .i64 0] 28)) := ((Ext.refl w).alloc (.cells (dArr ⟨a0, a1, a2, a3, a4, a5, p0, p1, p2, p3, p4, p5⟩) 28)).alloc (.cells (dArr zeroD) 28)
  have HK := Lib.hid (⟨hA, hR, hEE⟩ : _ ∧ _ ∧ _)
  clear hA hR hEE
  go_enter Tryz.func21, Tryz.ntmps21
  go_wp2_with fail
  obtain ⟨hA, hR, hEE⟩ := HK.out
  clear HK
  generalize ((w.alloc (.cells (dArr ⟨a0, a1, a2, a3, a4, a5, p0, p1, p2, p3, p4, p5⟩) 28)).alloc (.cells #[.bool false, .bool false, .bool false, .bool false, .bool false, .bool false, .int .i64 0, .int .i64 0, .int .i64 0, .int .i64 0, .int .i64 0, .int .i64 0] 28)) = W0 at *
  have HA := Lib.hid hA; have HR := Lib.hid hR; have HEE := Lib.hid hEE
  clear hA hR hEE
  have HS := Lib.hid (show ∀ w', Ext W0 w' → (w'.cell? ⟨w.heap.size, 0, none⟩ = some (.bool a0) ∧ w'.cell? ⟨w.heap.size, 1, none⟩ = some (.bool a1) ∧ w'.cell? ⟨w.heap.size, 2, none⟩ = some (.bool a2) ∧ w'.cell? ⟨w.heap.size, 3, none⟩ = some (.bool a3) ∧ w'.cell? ⟨w.heap.size, 4, none⟩ = some (.bool a4) ∧ w'.cell? ⟨w.heap.size, 5, none⟩ = some (.bool a5) ∧ w'.cell? ⟨w.heap.size, 6, none⟩ = some (.int .i64 (p0)) ∧ w'.cell? ⟨w.heap.size, 7, none⟩ = some (.int .i64 (p1)) ∧ w'.cell? ⟨w.heap.size, 8, none⟩ = some (.int .i64 (p2)) ∧ w'.cell? ⟨w.heap.size, 9, none⟩ = some (.int .i64 (p3)) ∧ w'.cell? ⟨w.heap.size, 10, none⟩ = some (.int .i64 (p4)) ∧ w'.cell? ⟨w.heap.size, 11, none⟩ = some (.int .i64 (p5))) from fun w' h => ⟨(HA.out.ext h).cell 0, (HA.out.ext h).cell 1, (HA.out.ext h).cell 2, (HA.out.ext h).cell 3, (HA.out.ext h).cell 4, (HA.out.ext h).cell 5, (HA.out.ext h).cell 6, (HA.out.ext h).cell 7, (HA.out.ext h).cell 8, (HA.out.ext h).cell 9, (HA.out.ext h).cell 10, (HA.out.ext h).cell 11⟩)
  have hE := (Ext.refl W0).drew
  refine wp_region_U (S := (fun w' => w'.cell? ⟨w.heap.size, 0, none⟩ = some (.bool a0) ∧ w'.cell? ⟨w.heap.size, 1, none⟩ = some (.bool a1) ∧ w'.cell? ⟨w.heap.size, 2, none⟩ = some (.bool a2) ∧ w'.cell? ⟨w.heap.size, 3, none⟩ = some (.bool a3) ∧ w'.cell? ⟨w.heap.size, 4, none⟩ = some (.bool a4) ∧ w'.cell? ⟨w.heap.size, 5, none⟩ = some (.bool a5) ∧ w'.cell? ⟨w.heap.size, 6, none⟩ = some (.int .i64 (p0)) ∧ w'.cell? ⟨w.heap.size, 7, none⟩ = some (.int .i64 (p1)) ∧ w'.cell? ⟨w.heap.size, 8, none⟩ = some (.int .i64 (p2)) ∧ w'.cell? ⟨w.heap.size, 9, none⟩ = some (.int .i64 (p3)) ∧ w'.cell? ⟨w.heap.size, 10, none⟩ = some (.int .i64 (p4)) ∧ w'.cell? ⟨w.heap.size, 11, none⟩ = some (.int .i64 (p5)))) 19 (by kernel_rfl) ?_ (fun hHeld => ?_)
  · (try dsimp only); exact HS.out _ hE
  refine wpAnyU_takeW (i := 0) (oi := { dst := some 3, op := _, type := _, pos := _, after := _, guard := _ }) (v := ?_) (by kernel_rfl) rfl (by kernel_rfl) (by kernel_rfl) (by kernel_rfl) (fun _ _ _ h => h) (Or.inl ⟨by rfl, ?_⟩) (by assumption) ?_
  rotate_left
  · (intro w hSw; (try dsimp only at hSw); go_simp; (try with_reducible rfl))
  (try simp only [Act.put, List.setIfInBounds_toArray, List.set_cons_zero, List.set_cons_succ])
  refine wpAnyU_take (i := 1) (oi := { dst := some 4, op := _, type := _, pos := _, after := _, guard := _ }) (v := ?_) [2, 5, 8, 11, 14, 17, 18, 19, 20, 21, 22, 23, 24, 25, 26, 27, 28, 29] (by kernel_rfl) (by kernel_rfl) (by kernel_rfl) (by kernel_rfl) rfl (by kernel_rfl) (by kernel_rfl) (by kernel_rfl) (fun _ _ _ h => h) (Or.inl ⟨by rfl, ?_⟩) (by assumption) ?_
  rotate_left
  · (intro w hSw; (try dsimp only at hSw); go_simp; (try with_reducible rfl))
  (try simp only [Act.put, List.setIfInBounds_toArray, List.set_cons_zero, List.set_cons_succ])
  refine wpAnyU_takeW (i := 3) (oi := { dst := some 6, op := _, type := _, pos := _, after := _, guard := _ }) (v := ?_) (by kernel_rfl) rfl (by kernel_rfl) (by kernel_rfl) (by kernel_rfl) (fun _ _ _ h => h) (Or.inl ⟨by rfl, ?_⟩) (by assumption) ?_
  rotate_left
  · (intro w hSw; (try dsimp only at hSw); go_simp; (try with_reducible rfl))
  (try simp only [Act.put, List.setIfInBounds_toArray, List.set_cons_zero, List.set_cons_succ])
  refine wpAnyU_take (i := 4) (oi := { dst := some 7, op := _, type := _, pos := _, after := _, guard := _ }) (v := ?_) [5, 8, 11, 14, 17, 18, 19, 20, 21, 22, 23, 24, 25, 26, 27, 28, 29] (by kernel_rfl) (by kernel_rfl) (by kernel_rfl) (by kernel_rfl) rfl (by kernel_rfl) (by kernel_rfl) (by kernel_rfl) (fun _ _ _ h => h) (Or.inl ⟨by rfl, ?_⟩) (by assumption) ?_
  rotate_left
  · (intro w hSw; (try dsimp only at hSw); go_simp; (try with_reducible rfl))
  (try simp only [Act.put, List.setIfInBounds_toArray, List.set_cons_zero, List.set_cons_succ])
  refine wpAnyU_takeW (i := 6) (oi := { dst := some 9, op := _, type := _, pos := _, after := _, guard := _ }) (v := ?_) (by kernel_rfl) rfl (by kernel_rfl) (by kernel_rfl) (by kernel_rfl) (fun _ _ _ h => h) (Or.inl ⟨by rfl, ?_⟩) (by assumption) ?_
  rotate_left
  · (intro w hSw; (try dsimp only at hSw); go_simp; (try with_reducible rfl))
  (try simp only [Act.put, List.setIfInBounds_toArray, List.set_cons_zero, List.set_cons_succ])
  refine wpAnyU_take (i := 7) (oi := { dst := some 10, op := _, type := _, pos := _, after := _, guard := _ }) (v := ?_) [8, 11, 14, 17, 18, 19, 20, 21, 22, 23, 24, 25, 26, 27, 28, 29] (by kernel_rfl) (by kernel_rfl) (by kernel_rfl) (by kernel_rfl) rfl (by kernel_rfl) (by kernel_rfl) (by kernel_rfl) (fun _ _ _ h => h) (Or.inl ⟨by rfl, ?_⟩) (by assumption) ?_
  rotate_left
  · (intro w hSw; (try dsimp only at hSw); go_simp; (try with_reducible rfl))
  (try simp only [Act.put, List.setIfInBounds_toArray, List.set_cons_zero, List.set_cons_succ])
  refine wpAnyU_takeW (i := 9) (oi := { dst := some 12, op := _, type := _, pos := _, after := _, guard := _ }) (v := ?_) (by kernel_rfl) rfl (by kernel_rfl) (by kernel_rfl) (by kernel_rfl) (fun _ _ _ h => h) (Or.inl ⟨by rfl, ?_⟩) (by assumption) ?_
  rotate_left
  · (intro w hSw; (try dsimp only at hSw); go_simp; (try with_reducible rfl))
  (try simp only [Act.put, List.setIfInBounds_toArray, List.set_cons_zero, List.set_cons_succ])
  refine wpAnyU_take (i := 10) (oi := { dst := some 13, op := _, type := _, pos := _, after := _, guard := _ }) (v := ?_) [11, 14, 17, 18, 19, 20, 21, 22, 23, 24, 25, 26, 27, 28, 29] (by kernel_rfl) (by kernel_rfl) (by kernel_rfl) (by kernel_rfl) rfl (by kernel_rfl) (by kernel_rfl) (by kernel_rfl) (fun _ _ _ h => h) (Or.inl ⟨by rfl, ?_⟩) (by assumption) ?_
  rotate_left
  · (intro w hSw; (try dsimp only at hSw); go_simp; (try with_reducible rfl))
  (try simp only [Act.put, List.setIfInBounds_toArray, List.set_cons_zero, List.set_cons_succ])
  refine wpAnyU_takeW (i := 12) (oi := { dst := some 15, op := _, type := _, pos := _, after := _, guard := _ }) (v := ?_) (by kernel_rfl) rfl (by kernel_rfl) (by kernel_rfl) (by kernel_rfl) (fun _ _ _ h => h) (Or.inl ⟨by rfl, ?_⟩) (by assumption) ?_
  rotate_left
  · (intro w hSw; (try dsimp only at hSw); go_simp; (try with_reducible rfl))
  (try simp only [Act.put, List.setIfInBounds_toArray, List.set_cons_zero, List.set_cons_succ])
  refine wpAnyU_take (i := 13) (oi := { dst := some 16, op := _, type := _, pos := _, after := _, guard := _ }) (v := ?_) [14, 17, 18, 19, 20, 21, 22, 23, 24, 25, 26, 27, 28, 29] (by kernel_rfl) (by kernel_rfl) (by kernel_rfl) (by kernel_rfl) rfl (by kernel_rfl) (by kernel_rfl) (by kernel_rfl) (fun _ _ _ h => h) (Or.inl ⟨by rfl, ?_⟩) (by assumption) ?_
  rotate_left
  · (intro w hSw; (try dsimp only at hSw); go_simp; (try with_reducible rfl))
  (try simp only [Act.put, List.setIfInBounds_toArray, List.set_cons_zero, List.set_cons_succ])
  refine wpAnyU_takeW (i := 15) (oi := { dst := some 18, op := _, type := _, pos := _, after := _, guard := _ }) (v := ?_) (by kernel_rfl) rfl (by kernel_rfl) (by kernel_rfl) (by kernel_rfl) (fun _ _ _ h => h) (Or.inl ⟨by rfl, ?_⟩) (by assumption) ?_
  rotate_left
  · (intro w hSw; (try dsimp only at hSw); go_simp; (try with_reducible rfl))
  (try simp only [Act.put, List.setIfInBounds_toArray, List.set_cons_zero, List.set_cons_succ])
  refine wpAnyU_take (i := 16) (oi := { dst := some 19, op := _, type := _, pos := _, after := _, guard := _ }) (v := ?_) [17, 18, 19, 20, 21, 22, 23, 24, 25, 26, 27, 28, 29] (by kernel_rfl) (by kernel_rfl) (by kernel_rfl) (by kernel_rfl) rfl (by kernel_rfl) (by kernel_rfl) (by kernel_rfl) (fun _ _ _ h => h) (Or.inl ⟨by rfl, ?_⟩) (by assumption) ?_
  rotate_left
  · (intro w hSw; (try dsimp only at hSw); go_simp; (try with_reducible rfl))
  (try simp only [Act.put, List.setIfInBounds_toArray, List.set_cons_zero, List.set_cons_succ])
  refine wpAnyU_ready (rs := [2]) (by kernel_rfl) (by simp) ?_
  refine AllReadyU.cons (o := { dst := some 5, op := _, type := _, pos := _, after := _, guard := _ }) rfl (fun K hK => ?_) AllReadyU.nil
  go_simp
  refine (ref_time _ _).mono ?_; rintro e w1 ⟨rfl, hb1⟩; replace hE := hE.trans hb1; clear hb1
  try go_wp2_with fail
  refine hK.out _ _ ?_ (fun hHeld => ?_)
  · (try dsimp only); exact HS.out _ hE
  clear hK K
  (try simp only [Act.put, List.setIfInBounds_toArray, List.set_cons_zero, List.set_cons_succ])
  refine wpAnyU_takeW (i := 18) (oi := { dst := some 21, op := _, type := _, pos := _, after := _, guard := _ }) (v := ?_) (by kernel_rfl) rfl (by kernel_rfl) (by kernel_rfl) (by kernel_rfl) (fun _ _ _ h => h) (Or.inl ⟨by rfl, ?_⟩) (by assumption) ?_
  rotate_left
  · (intro w hSw; (try dsimp only at hSw); go_simp; (try with_reducible rfl))
  (try simp only [Act.put, List.setIfInBounds_toArray, List.set_cons_zero, List.set_cons_succ])
  refine wpAnyU_ready (rs := [5]) (by kernel_rfl) (by simp) ?_
  refine AllReadyU.cons (o := { dst := some 8, op := _, type := _, pos := _, after := _, guard := _ }) rfl (fun K hK => ?_) AllReadyU.nil
  go_simp
  refine (ref_time _ _).mono ?_; rintro e w1 ⟨rfl, hb1⟩; replace hE := hE.trans hb1; clear hb1
  try go_wp2_with fail
  refine hK.out _ _ ?_ (fun hHeld => ?_)
  · (try dsimp only); exact HS.out _ hE
  clear hK K
  (try simp only [Act.put, List.setIfInBounds_toArray, List.set_cons_zero, List.set_cons_succ])
  refine wpAnyU_ready (rs := [8]) (by kernel_rfl) (by simp) ?_
  refine AllReadyU.cons (o := { dst := some 11, op := _, type := _, pos := _, after := _, guard := _ }) rfl (fun K hK => ?_) AllReadyU.nil
  go_simp
  refine (ref_time _ _).mono ?_; rintro e w1 ⟨rfl, hb1⟩; replace hE := hE.trans hb1; clear hb1
  try go_wp2_with fail
  refine hK.out _ _ ?_ (fun hHeld => ?_)
  · (try dsimp only); exact HS.out _ hE
  clear hK K
  (try simp only [Act.put, List.setIfInBounds_toArray, List.set_cons_zero, List.set_cons_succ])
  refine wpAnyU_ready (rs := [11]) (by kernel_rfl) (by simp) ?_
  refine AllReadyU.cons (o := { dst := some 14, op := _, type := _, pos := _, after := _, guard := _ }) rfl (fun K hK => ?_) AllReadyU.nil
  go_simp
  refine (ref_time _ _).mono ?_; rintro e w1 ⟨rfl, hb1⟩; replace hE := hE.trans hb1; clear hb1
  try go_wp2_with fail
  refine hK.out _ _ ?_ (fun hHeld => ?_)
  · (try dsimp only); exact HS.out _ hE
  clear hK K
  (try simp only [Act.put, List.setIfInBounds_toArray, List.set_cons_zero, List.set_cons_succ])
  refine wpAnyU_ready (rs := [14]) (by kernel_rfl) (by simp) ?_
  refine AllReadyU.cons (o := { dst := some 17, op := _, type := _, pos := _, after := _, guard := _ }) rfl (fun K hK => ?_) AllReadyU.nil
  go_simp
  refine (ref_time _ _).mono ?_; rintro e w1 ⟨rfl, hb1⟩; replace hE := hE.trans hb1; clear hb1
  try go_wp2_with fail
  refine hK.out _ _ ?_ (fun hHeld => ?_)
  · (try dsimp only); exact HS.out _ hE
  clear hK K
  (try simp only [Act.put, List.setIfInBounds_toArray, List.set_cons_zero, List.set_cons_succ])
  refine wpAnyU_ready (rs := [17]) (by kernel_rfl) (by simp) ?_
  refine AllReadyU.cons (o := { dst := some 20, op := _, type := _, pos := _, after := _, guard := _ }) rfl (fun K hK => ?_) AllReadyU.nil
  go_simp
  refine (ref_time _ _).mono ?_; rintro e w1 ⟨rfl, hb1⟩; replace hE := hE.trans hb1; clear hb1
  try go_wp2_with fail
  refine hK.out _ _ ?_ (fun hHeld => ?_)
  · (try dsimp only); exact HS.out _ hE
  clear hK K
  (try simp only [Act.put, List.setIfInBounds_toArray, List.set_cons_zero, List.set_cons_succ])
  refine wpAnyU_ready (rs := [19]) (by kernel_rfl) (by simp) ?_
  refine AllReadyU.stop (o := { dst := none, op := _, type := _, pos := _, after := _, guard := _ }) rfl (by kernel_rfl) (fun K hK => ?_) AllReadyU.nil
  have HQ := Lib.hid (HA.out.ext hE); have hfz := HQ.out.frozen; have hcz := HQ.out.cell 6
  go_simp
  skip
  try go_wp2_with fail
  refine hK.out _ _ ?_ (fun hHeld => ?_)
  · (try dsimp only); (try trivial)
  clear hK K
  (try simp only [Act.put, List.setIfInBounds_toArray, List.set_cons_zero, List.set_cons_succ])
  refine wpAnyH_take (i := 20) (oi := { dst := some 22, op := _, type := _, pos := _, after := _, guard := _ }) (v := ?_) rfl (by kernel_rfl) (by kernel_rfl) (by kernel_rfl) (fun _ _ _ h => h) (Or.inl ⟨by rfl, ?_⟩) (by assumption) ?_
  rotate_left
  · (intro w hSw; (try dsimp only at hSw); go_simp; (try with_reducible rfl))
  (try simp only [Act.put, List.setIfInBounds_toArray, List.set_cons_zero, List.set_cons_succ])
  refine wpAnyH_ready (rs := [21]) (by kernel_rfl) (by simp) ?_
  refine AllReadyH.cons (o := { dst := none, op := _, type := _, pos := _, after := _, guard := _ }) rfl (fun K hK => ?_) AllReadyH.nil
  have hfz := (HQ.out.set_ 6 (.int .i64 (nmT p0))).frozen; have hcz := (HQ.out.set_ 6 (.int .i64 (nmT p0))).cell 7
  go_simp
  skip
  try go_wp2_with fail
  refine hK.out _ _ ?_ (fun hHeld => ?_)
  · (try dsimp only); (try trivial)
  clear hK K
  (try simp only [Act.put, List.setIfInBounds_toArray, List.set_cons_zero, List.set_cons_succ])
  refine wpAnyH_take (i := 22) (oi := { dst := some 23, op := _, type := _, pos := _, after := _, guard := _ }) (v := ?_) rfl (by kernel_rfl) (by kernel_rfl) (by kernel_rfl) (fun _ _ _ h => h) (Or.inl ⟨by rfl, ?_⟩) (by assumption) ?_
  rotate_left
  · (intro w hSw; (try dsimp only at hSw); go_simp; (try with_reducible rfl))
  (try simp only [Act.put, List.setIfInBounds_toArray, List.set_cons_zero, List.set_cons_succ])
  refine wpAnyH_ready (rs := [23]) (by kernel_rfl) (by simp) ?_
  refine AllReadyH.cons (o := { dst := none, op := _, type := _, pos := _, after := _, guard := _ }) rfl (fun K hK => ?_) AllReadyH.nil
  have hfz := ((HQ.out.set_ 6 (.int .i64 (nmT p0))).set_ 7 (.int .i64 (nmT p1))).frozen; have hcz := ((HQ.out.set_ 6 (.int .i64 (nmT p0))).set_ 7 (.int .i64 (nmT p1))).cell 8
  go_simp
  skip
  try go_wp2_with fail
  refine hK.out _ _ ?_ (fun hHeld => ?_)
  · (try dsimp only); (try trivial)
  clear hK K
  (try simp only [Act.put, List.setIfInBounds_toArray, List.set_cons_zero, List.set_cons_succ])
  refine wpAnyH_take (i := 24) (oi := { dst := some 24, op := _, type := _, pos := _, after := _, guard := _ }) (v := ?_) rfl (by kernel_rfl) (by kernel_rfl) (by kernel_rfl) (fun _ _ _ h => h) (Or.inl ⟨by rfl, ?_⟩) (by assumption) ?_
  rotate_left
  · (intro w hSw; (try dsimp only at hSw); go_simp; (try with_reducible rfl))
  (try simp only [Act.put, List.setIfInBounds_toArray, List.set_cons_zero, List.set_cons_succ])
  refine wpAnyH_ready (rs := [25]) (by kernel_rfl) (by simp) ?_
  refine AllReadyH.cons (o := { dst := none, op := _, type := _, pos := _, after := _, guard := _ }) rfl (fun K hK => ?_) AllReadyH.nil
  have hfz := (((HQ.out.set_ 6 (.int .i64 (nmT p0))).set_ 7 (.int .i64 (nmT p1))).set_ 8 (.int .i64 (nmT p2))).frozen; have hcz := (((HQ.out.set_ 6 (.int .i64 (nmT p0))).set_ 7 (.int .i64 (nmT p1))).set_ 8 (.int .i64 (nmT p2))).cell 9
  go_simp
  skip
  try go_wp2_with fail
  refine hK.out _ _ ?_ (fun hHeld => ?_)
  · (try dsimp only); (try trivial)
  clear hK K
  (try simp only [Act.put, List.setIfInBounds_toArray, List.set_cons_zero, List.set_cons_succ])
  refine wpAnyH_take (i := 26) (oi := { dst := some 25, op := _, type := _, pos := _, after := _, guard := _ }) (v := ?_) rfl (by kernel_rfl) (by kernel_rfl) (by kernel_rfl) (fun _ _ _ h => h) (Or.inl ⟨by rfl, ?_⟩) (by assumption) ?_
  rotate_left
  · (intro w hSw; (try dsimp only at hSw); go_simp; (try with_reducible rfl))
  (try simp only [Act.put, List.setIfInBounds_toArray, List.set_cons_zero, List.set_cons_succ])
  refine wpAnyH_ready (rs := [27]) (by kernel_rfl) (by simp) ?_
  refine AllReadyH.cons (o := { dst := none, op := _, type := _, pos := _, after := _, guard := _ }) rfl (fun K hK => ?_) AllReadyH.nil
  have hfz := ((((HQ.out.set_ 6 (.int .i64 (nmT p0))).set_ 7 (.int .i64 (nmT p1))).set_ 8 (.int .i64 (nmT p2))).set_ 9 (.int .i64 (nmT p3))).frozen; have hcz := ((((HQ.out.set_ 6 (.int .i64 (nmT p0))).set_ 7 (.int .i64 (nmT p1))).set_ 8 (.int .i64 (nmT p2))).set_ 9 (.int .i64 (nmT p3))).cell 10
  go_simp
  skip
  try go_wp2_with fail
  refine hK.out _ _ ?_ (fun hHeld => ?_)
  · (try dsimp only); (try trivial)
  clear hK K
  (try simp only [Act.put, List.setIfInBounds_toArray, List.set_cons_zero, List.set_cons_succ])
  refine wpAnyH_take (i := 28) (oi := { dst := some 26, op := _, type := _, pos := _, after := _, guard := _ }) (v := ?_) rfl (by kernel_rfl) (by kernel_rfl) (by kernel_rfl) (fun _ _ _ h => h) (Or.inl ⟨by rfl, ?_⟩) (by assumption) ?_
  rotate_left
  · (intro w hSw; (try dsimp only at hSw); go_simp; (try with_reducible rfl))
  (try simp only [Act.put, List.setIfInBounds_toArray, List.set_cons_zero, List.set_cons_succ])
  refine wpAnyH_ready (rs := [29]) (by kernel_rfl) (by simp) ?_
  refine AllReadyH.cons (o := { dst := none, op := _, type := _, pos := _, after := _, guard := _ }) rfl (fun K hK => ?_) AllReadyH.nil
  have hfz := (((((HQ.out.set_ 6 (.int .i64 (nmT p0))).set_ 7 (.int .i64 (nmT p1))).set_ 8 (.int .i64 (nmT p2))).set_ 9 (.int .i64 (nmT p3))).set_ 10 (.int .i64 (nmT p4))).frozen; have hcz := (((((HQ.out.set_ 6 (.int .i64 (nmT p0))).set_ 7 (.int .i64 (nmT p1))).set_ 8 (.int .i64 (nmT p2))).set_ 9 (.int .i64 (nmT p3))).set_ 10 (.int .i64 (nmT p4))).cell 11
  go_simp
  skip
  try go_wp2_with fail
  refine hK.out _ _ ?_ (fun hHeld => ?_)
  · (try dsimp only); (try trivial)
  clear hK K
  (try simp only [Act.put, List.setIfInBounds_toArray, List.set_cons_zero, List.set_cons_succ])
  refine wpAnyH_done (by kernel_rfl) ?_ _
  have hY := ((((((HQ.out.set_ 6 (.int .i64 (nmT p0))).set_ 7 (.int .i64 (nmT p1))).set_ 8 (.int .i64 (nmT p2))).set_ 9 (.int .i64 (nmT p3))).set_ 10 (.int .i64 (nmT p4))).set_ 11 (.int .i64 (nmT p5)))
  have hX := (((((((ExtB.refl w.heap.size w1).set_ 6 (.int .i64 (nmT p0))).set_ 7 (.int .i64 (nmT p1))).set_ 8 (.int .i64 (nmT p2))).set_ 9 (.int .i64 (nmT p3))).set_ 10 (.int .i64 (nmT p4))).set_ 11 (.int .i64 (nmT p5)))
  have HRr := Lib.hid ((HR.out.ext hE).grown hX (by simp))
  have HF := Lib.hid ((HEE.out.trans hE).growB hX (Nat.le_refl _))
  have hY : Blk _ w.heap.size 28 (dArr (nmD ⟨a0, a1, a2, a3, a4, a5, p0, p1, p2, p3, p4, p5⟩)) := hY
  go_wp2_with (first
    | (refine wpList_loadB rfl 28 (.tmp 1) rfl w.heap.size rfl 28 _ hY _ Tryz.underlying28 infoD ?_)
    | (refine wpList_storeB rfl 28 (.tmp 2) (.tmp 27) rfl rfl (w.heap.size + 1) _ rfl rfl 28 _ HRr.out infoD rfl (dArr_one (nmD ⟨a0, a1, a2, a3, a4, a5, p0, p1, p2, p3, p4, p5⟩)) ?_; intro w9 hB9 hx9))
  exact bodyPost_ret (v := .agg (dArr (nmD ⟨a0, a1, a2, a3, a4, a5, p0, p1, p2, p3, p4, p5⟩))) (results_cell_row rfl _ _ (w.heap.size + 1) 28 _ (0, 0) _ rfl hB9 Tryz.underlying28 rfl infoD) rfl ⟨rfl, HF.out.growB hx9 (by omega)⟩

end Go.Proofs.YtocniclkooiggaaGreatDoor

namespace Go.Proofs.YtocniclkooiggaaGreatDoor
open Go.RowKit

theorem yield_eql {P : Program} {ops : Array Oper} {o : Oper} {a : Act} {S : World → Prop} (hgd : o.guard = none) (t u : TypeId) (x y : Operand) (ho : o.op = .binOp .eql t x y u) (vx vy : Array Value) (b : Value) (hx : a.eval x = .agg vx) (hy : a.eval y = .agg vy) (hm : P.eqGuardType P.depth t = false)
    (h : ∀ w, (binOp .eql t (.agg vx) (.agg vy)).run P w = .ok b w) : YieldsIf P ops S o b a := by
  refine .inl ⟨by simp [Region.wanted, hgd], fun w _ => ?_⟩
  unfold execOp
  simp only [ho, hx, hy, Sem.run_bind, Sem.run_pure, run_eqGuard_agg (hm := hm), h, Result.andThen_ok]

set_option maxHeartbeats 1000000 in
set_option maxRecDepth 100000 in
theorem law_Program (d : D) (w : World) : Calls Tryz.prog 9 #[.agg (dArr d)] w fun e w' => e = .returned (.agg (dArr d)) ∧ Ext w w' := by
  have hB := Lib.hid (Blk.new (w.alloc (.cells (dArr d) 28)) 40 (dArr zeroD))
  rw [World.size_alloc] at hB
  go_enter Tryz.func9, Tryz.ntmps9
  unfold dArr
  go_wp2_with (first
    | (refine wpList_storeB rfl 40 (.tmp 2) (.tmp 27) rfl rfl (w.heap.size + 1) _ rfl rfl 40 _ hB.out infoDp rfl (dArr_one d) ?_; intro w9 hB9 hx9))
  exact bodyPost_ret (v := .agg (dArr d)) (results_cell_row rfl _ _ (w.heap.size + 1) 40 _ (0, 0) _ rfl hB9 Tryz.underlying40 rfl infoDp) rfl ⟨rfl, (((Ext.refl w).alloc _).alloc _).growB hx9 (by omega)⟩

end Go.Proofs.YtocniclkooiggaaGreatDoor
