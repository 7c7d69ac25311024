
/- Plain law of lists of tags: read tag by tag, or taken apart at the commas outside quotes, a list gives the same tags. No program in sight. -/
import Derived.Test.YtghaopeijncgaaaDoorTag
namespace Go.Proofs.YtghaopeijncgaaaDoor
open Go.RowKit

abbrev Tg := Bool × ByteArray
def trimQ (l : List UInt8) : ByteArray := ⟨(Lib.trimS l blank).toArray⟩
def mkB (l : List UInt8) : ByteArray := ⟨l.toArray⟩
theorem mkB_data (s : ByteArray) : mkB s.data.toList = s := bytes_ext (by simp [mkB])
def lefT (l : List UInt8) : List UInt8 := Lib.trimLeftS l blank
def twq (l : List UInt8) : List UInt8 := l.takeWhile (· != 34)
def dwq (l : List UInt8) : List UInt8 := (l.dropWhile (· != 34)).drop 1
/-- The list read tag by tag. -/
def rdL : Nat → List UInt8 → List Tg → Option (List Tg)
  | 0, _, _ => none
  | n + 1, l, out =>
    if l = [] then (if out = [] then none else some out)
    else if l.head? = some 44 then rdL n (lefT (l.drop 1)) out
    else if (twq l).length < l.length then
      (if (twq (dwq l)).length < (dwq l).length then
        match tagS (mkB (twq l ++ 34 :: (twq (dwq l) ++ [34]))) with
        | none => none
        | some t => (if (lefT (dwq (dwq l))) ≠ [] ∧ (lefT (dwq (dwq l))).head? ≠ some 44 then none else rdL n (lefT (dwq (dwq l))) (out ++ [t]))
      else none)
    else none
/-- A part more. -/
def addP (cur : List UInt8) (out : List Tg) : Option (List Tg) := if (trimQ cur).size = 0 then some out else (tagS (trimQ cur)).map fun t => out ++ [t]
def nq (c : UInt8) (q : Bool) : Bool := if c = 34 then !q else q
theorem nq_yes (q : Bool) : nq 34 q = !q := rfl
theorem nq_no {c : UInt8} {q : Bool} (h : c ≠ 34) : nq c q = q := by unfold nq; rw [if_neg h]
/-- The list taken apart at the commas outside quotes. -/
def rfL : List UInt8 → Bool → List UInt8 → List Tg → Option (List Tg)
  | [], _, cur, out => addP cur out
  | c :: l, q, cur, out =>
    if nq c q = true ∨ c ≠ 44 then rfL l (nq c q) (cur ++ [c]) out
    else match addP cur out with
      | none => none
      | some o => rfL l (nq c q) [] o
def finR (o : Option (List Tg)) : Option (List Tg) := match o with | none => none | some l => if l = [] then none else some l

theorem split34 (l : List UInt8) (h : (twq l).length < l.length) : l = twq l ++ 34 :: dwq l := by
  unfold twq dwq at *
  induction l with
  | nil => simp at h
  | cons c r ih =>
    by_cases hc : c = 34
    · subst hc; simp
    · simp only [List.takeWhile_cons, List.dropWhile_cons, bne_iff_ne, ne_eq, hc, not_false_eq_true, if_true, List.length_cons] at h ⊢
      rw [List.cons_append, ← ih (by omega)]
theorem tw_no (l : List UInt8) : ∀ c ∈ twq l, c ≠ 34 := fun c hc => by
  unfold twq at hc
  induction l with
  | nil => simp at hc
  | cons d r ih =>
    rw [List.takeWhile_cons] at hc
    split at hc
    · rcases List.mem_cons.1 hc with rfl | hc
      · rename_i h; simpa using h
      · exact ih hc
    · simp at hc
theorem tw_all (l : List UInt8) (h : ¬ (twq l).length < l.length) : ∀ c ∈ l, c ≠ 34 := by
  have hp : (twq l) <+: l := List.takeWhile_prefix _
  have : twq l = l := hp.eq_of_length (by have := hp.length_le; omega)
  rw [← this]; exact tw_no l

/-! Trimming. -/
theorem dwAll {p : UInt8 → Bool} {a : List UInt8} (b : List UInt8) (h : ∀ c ∈ a, p c = true) : (a ++ b).dropWhile p = b.dropWhile p := by
  induction a with
  | nil => rfl
  | cons x r ih =>
    rw [List.cons_append, List.dropWhile_cons, if_pos (h x (List.mem_cons_self ..)), ih (fun c hc => h c (List.mem_cons_of_mem _ hc))]
theorem dw_head {p : UInt8 → Bool} {a b : List UInt8} {c : UInt8} (ha : a.head? = some c) (hc : p c = false) : (a ++ b).dropWhile p = a ++ b := by
  cases a with
  | nil => cases ha
  | cons x r =>
    simp only [List.head?_cons, Option.some.injEq] at ha
    subst ha
    rw [List.cons_append, List.dropWhile_cons, if_neg (by simp [hc])]
theorem trimR_app {a b : List UInt8} {d : UInt8} (hd : a.getLast? = some d) (hb : bl d = false) : Lib.trimRightS (a ++ b) blank = a ++ Lib.trimRightS b blank := by
  unfold Lib.trimRightS
  rw [List.reverse_append, List.dropWhile_append]
  split
  · rename_i he
    have he2 : b.reverse.dropWhile (blank.contains ·) = [] := by simpa using he
    rw [he2]
    cases hr : a.reverse with
    | nil => rw [List.reverse_eq_nil_iff] at hr; subst hr; cases hd
    | cons x r =>
      have hx : x = d := by
        rw [List.getLast?_eq_head?_reverse, hr] at hd
        simpa using hd
      subst hx
      rw [List.dropWhile_cons, if_neg (by simpa [bl] using hb), ← hr, List.reverse_reverse]
      simp
  · rw [List.reverse_append, List.reverse_reverse]
theorem trim_app {a b : List UInt8} {c d : UInt8} (hc : a.head? = some c) (hcb : bl c = false) (hd : a.getLast? = some d) (hb : bl d = false) : Lib.trimS (a ++ b) blank = a ++ Lib.trimRightS b blank := by
  unfold Lib.trimS
  rw [trimR_app hd hb]
  exact dw_head hc hcb
theorem trimR_nil {b : List UInt8} (h : ∀ c ∈ b, bl c = true) : Lib.trimRightS b blank = [] := by
  unfold Lib.trimRightS
  have := dwAll (p := (blank.contains ·)) (a := b.reverse) [] (fun c hc => h c (List.mem_reverse.1 hc))
  rw [List.append_nil] at this
  rw [this]; rfl
theorem trim_cons {c : UInt8} (l : List UInt8) (h : bl c = true) : Lib.trimS (c :: l) blank = Lib.trimS l blank := trimL_cons c l h
theorem left_split (l : List UInt8) : ∃ bs, (∀ c ∈ bs, bl c = true) ∧ l = bs ++ lefT l ∧ (∀ c, (lefT l).head? = some c → bl c = false) := by
  unfold lefT Lib.trimLeftS
  induction l with
  | nil => exact ⟨[], by simp, rfl, by simp⟩
  | cons x r ih =>
    rw [List.dropWhile_cons]
    split
    · rename_i h
      obtain ⟨bs, h1, h2, h3⟩ := ih
      refine ⟨x :: bs, ?_, ?_, h3⟩
      · intro c hc
        rcases List.mem_cons.1 hc with rfl | hc
        · exact h
        · exact h1 c hc
      · rw [List.cons_append, ← h2]
    · rename_i h
      exact ⟨[], by simp, rfl, fun c hc => by
        simp only [List.head?_cons, Option.some.injEq] at hc
        subst hc
        simpa [bl] using h⟩
theorem lefT_len (l : List UInt8) : (lefT l).length ≤ l.length := by
  obtain ⟨bs, _, h, _⟩ := left_split l
  have := congrArg List.length h
  rw [List.length_append] at this
  omega

/-! What a tag's text is. -/
def pfx (w : Bool) : List UInt8 := if w then [87, 47] else []
theorem tag_form {y : ByteArray} {t : Tg} (h : tagS y = some t) : y.data.toList = pfx t.1 ++ 34 :: (t.2.data.toList ++ [34]) ∧ ∀ c ∈ t.2.data.toList, c ≠ 34 := by
  unfold tagS at h
  obtain ⟨x, hx, rfl⟩ := Option.map_eq_some_iff.1 h
  have hw : y.data.toList = pfx (wkP y) ++ (wkR y).data.toList := by
    unfold wkP wkR Lib.trimPrefix
    cases hp : Lib.hasPrefix y.data.toList [87, 47]
    · simp [pfx]
    · unfold Lib.hasPrefix at hp
      obtain ⟨u, hu⟩ := List.isPrefixOf_iff_prefix.1 hp
      rw [← hu]; simp [pfx]
  generalize wkR y = r at *
  unfold txtS at hx
  split at hx
  · cases hx
  · rename_i h2
    split at hx
    · rename_i h3
      obtain ⟨h4, h5, h6⟩ := h3
      injection hx with hx
      subst hx
      have hr : r.data.toList = 34 :: ((r.extract 1 (r.size - 1)).data.toList ++ [34]) := by
        have he : (r.extract 1 (r.size - 1)).data.toList = (r.data.toList.drop 1).take (r.size - 1 - 1) := by rw [← ByteArray.toList_eq, Lib.extract_toList]
        rw [he]
        clear he
        obtain ⟨⟨l⟩⟩ := r
        have h2' : ¬ l.length < 2 := h2
        have h4' : l[0]'(by omega) = 34 := h4
        have h5' : l[l.length - 1]'(by omega) = 34 := h5
        show l = 34 :: (_ ++ [34])
        rw [show (ByteArray.mk (Array.mk l)).size = l.length from rfl]
        match l, h2', h4', h5' with
        | a :: b :: m, _, h4', h5' =>
          simp only [List.getElem_cons_zero] at h4'
          subst h4'
          congr 1
          show b :: m = ((b :: m).take (m.length + 1 + 1 - 1 - 1)) ++ [34]
          have h7 : (b :: m).take (m.length + 1 + 1 - 1 - 1) ++ [(b :: m)[m.length]'(by simp)] = b :: m := by
            rw [show m.length + 1 + 1 - 1 - 1 = m.length by omega, ← List.take_succ_eq_append_getElem]
            exact List.take_of_length_le (by simp)
          have h8 : (b :: m)[m.length]'(by simp) = 34 := by
            have : ((34 : UInt8) :: b :: m)[((34 : UInt8) :: b :: m).length - 1]'(by simp) = (b :: m)[m.length]'(by simp) := by simp
            first | exact this.symm.trans h5' | simpa using h5'
          rw [h8] at h7
          exact h7.symm
      refine ⟨by rw [hw]; congr 1, ?_⟩
      intro c hc e
      subst e
      unfold rightS at h6
      rw [Bool.not_eq_true', List.any_eq_false] at h6
      exact h6 34 hc (by decide)
    · cases hx
theorem tag_no34 {y : ByteArray} (h : ∀ c ∈ y.data.toList, c ≠ 34) : tagS y = none := by
  cases ht : tagS y with
  | none => rfl
  | some t =>
    have := (tag_form ht).1
    exact absurd rfl (h 34 (by rw [this]; simp))
theorem app_inj {a b x y : List UInt8} (ha : ∀ c ∈ a, c ≠ 34) (hb : ∀ c ∈ b, c ≠ 34) (h : a ++ 34 :: x = b ++ 34 :: y) : a = b ∧ x = y := by
  induction a generalizing b with
  | nil =>
    cases b with
    | nil => simp at h; exact ⟨rfl, h⟩
    | cons d r => simp at h; exact absurd h.1.symm (hb d (List.mem_cons_self ..))
  | cons c a ih =>
    cases b with
    | nil => simp at h; exact absurd h.1 (ha c (List.mem_cons_self ..))
    | cons d r =>
      simp only [List.cons_append, List.cons.injEq] at h
      obtain ⟨h1, h2⟩ := ih (fun c hc => ha c (List.mem_cons_of_mem _ hc)) (fun c hc => hb c (List.mem_cons_of_mem _ hc)) h.2
      exact ⟨by rw [h.1, h1], h2⟩
theorem pfx_no (w : Bool) : ∀ c ∈ pfx w, c ≠ 34 ∧ c ≠ 44 := by cases w <;> decide
/-- A text that goes on behind its second quote is no tag. -/
theorem tag_more {pre mid x : List UInt8} (hp : ∀ c ∈ pre, c ≠ 34) (hm : ∀ c ∈ mid, c ≠ 34) (hx : x ≠ []) : tagS (mkB (pre ++ 34 :: (mid ++ 34 :: x))) = none := by
  cases ht : tagS (mkB (pre ++ 34 :: (mid ++ 34 :: x))) with
  | none => rfl
  | some t =>
    obtain ⟨h1, h2⟩ := tag_form ht
    have h3 : pre ++ 34 :: (mid ++ 34 :: x) = pfx t.1 ++ 34 :: (t.2.data.toList ++ 34 :: []) := by
      rw [← h1]; simp [mkB]
    obtain ⟨_, h4⟩ := app_inj hp (fun c hc => (pfx_no t.1 c hc).1) h3
    exact absurd (app_inj hm h2 h4).2 hx
theorem tag_one {pre x : List UInt8} (hp : ∀ c ∈ pre, c ≠ 34) (hx : ∀ c ∈ x, c ≠ 34) : tagS (mkB (pre ++ 34 :: x)) = none := by
  cases ht : tagS (mkB (pre ++ 34 :: x)) with
  | none => rfl
  | some t =>
    obtain ⟨h1, h2⟩ := tag_form ht
    have h3 : pre ++ 34 :: x = pfx t.1 ++ 34 :: (t.2.data.toList ++ 34 :: []) := by
      rw [← h1]; simp [mkB]
    obtain ⟨_, h4⟩ := app_inj hp (fun c hc => (pfx_no t.1 c hc).1) h3
    exact absurd rfl (hx 34 (by rw [h4]; simp))
theorem tag_pre {pre x : List UInt8} (hp : ∀ c ∈ pre, c ≠ 34) (h44 : 44 ∈ pre) : tagS (mkB (pre ++ 34 :: x)) = none := by
  cases ht : tagS (mkB (pre ++ 34 :: x)) with
  | none => rfl
  | some t =>
    obtain ⟨h1, h2⟩ := tag_form ht
    have h3 : pre ++ 34 :: x = pfx t.1 ++ 34 :: (t.2.data.toList ++ 34 :: []) := by
      rw [← h1]; simp [mkB]
    obtain ⟨h4, _⟩ := app_inj hp (fun c hc => (pfx_no t.1 c hc).1) h3
    rw [h4] at h44
    exact absurd rfl ((pfx_no t.1 44 h44).2)

/-! The parts. -/
theorem trimQ_nil : (trimQ []).size = 0 := by decide +kernel
theorem addP_nil (out : List Tg) : addP [] out = some out := by unfold addP; rw [if_pos trimQ_nil]
theorem addP_bl {c : UInt8} (cur : List UInt8) (out : List Tg) (h : bl c = true) : addP (c :: cur) out = addP cur out := by
  unfold addP trimQ; rw [trim_cons cur h]
theorem rf_bl {c : UInt8} (h : bl c = true) : ∀ (l : List UInt8) (q : Bool) (cur : List UInt8) (out : List Tg), rfL l q (c :: cur) out = rfL l q cur out
  | [], q, cur, out => addP_bl cur out h
  | d :: l, q, cur, out => by
    simp only [rfL]
    split
    · rw [List.cons_append]; exact rf_bl h l _ _ _
    · rw [addP_bl cur out h]
theorem rf_left (l : List UInt8) (out : List Tg) : rfL (lefT l) false [] out = rfL l false [] out := by
  obtain ⟨bs, h1, h2, _⟩ := left_split l
  have key : ∀ (bs x : List UInt8), (∀ c ∈ bs, bl c = true) → rfL (bs ++ x) false [] out = rfL x false [] out := by
    intro bs x
    induction bs with
    | nil => intro _; rfl
    | cons b r ih =>
      intro hb
      have hbb := hb b (List.mem_cons_self ..)
      have h34 : b ≠ 34 := fun e => by subst e; exact absurd hbb (by decide)
      have h44 : b ≠ 44 := fun e => by subst e; exact absurd hbb (by decide)
      rw [List.cons_append]
      simp only [rfL]
      rw [nq_no h34, if_pos (.inr h44), List.nil_append, rf_bl hbb, ih (fun c hc => hb c (List.mem_cons_of_mem _ hc))]
  rw [← key bs (lefT l) h1, ← h2]
theorem rf_part {p : List UInt8} (r : List UInt8) (out : List Tg) (hp : ∀ c ∈ p, c ≠ 34 ∧ c ≠ 44) : ∀ cur, rfL (p ++ r) false cur out = rfL r false (cur ++ p) out := by
  induction p with
  | nil => intro cur; simp
  | cons c p ih =>
    intro cur
    have hc := hp c (List.mem_cons_self ..)
    rw [List.cons_append]
    simp only [rfL]
    rw [nq_no hc.1, if_pos (.inr hc.2), ih (fun c hc => hp c (List.mem_cons_of_mem _ hc)), List.append_assoc]; rfl
theorem rf_quo {p : List UInt8} (r : List UInt8) (out : List Tg) (hp : ∀ c ∈ p, c ≠ 34) : ∀ cur, rfL (p ++ r) true cur out = rfL r true (cur ++ p) out := by
  induction p with
  | nil => intro cur; simp
  | cons c p ih =>
    intro cur
    have hc := hp c (List.mem_cons_self ..)
    rw [List.cons_append]
    simp only [rfL]
    rw [nq_no hc, if_pos (.inl rfl), ih (fun c hc => hp c (List.mem_cons_of_mem _ hc)), List.append_assoc]; rfl
theorem rf_34 (r : List UInt8) (q : Bool) (cur : List UInt8) (out : List Tg) : rfL (34 :: r) q cur out = rfL r (!q) (cur ++ [34]) out := by
  simp only [rfL]
  rw [nq_yes, if_pos (.inr (by decide))]
theorem rf_bad {out : List Tg} : ∀ (l : List UInt8) (q : Bool) (cur : List UInt8), (∀ x, addP (cur ++ x) out = none) → rfL l q cur out = none
  | [], q, cur, h => by have := h []; rwa [List.append_nil] at this
  | c :: l, q, cur, h => by
    simp only [rfL]
    split
    · exact rf_bad l _ _ (fun x => by rw [List.append_assoc]; exact h _)
    · have := h []
      rw [List.append_nil] at this
      rw [this]
theorem q_size {l : List UInt8} (h : Lib.trimS l blank ≠ []) : ¬ (trimQ l).size = 0 := by
  intro e
  apply h
  have : (Lib.trimS l blank).toArray.size = 0 := e
  simpa using this
theorem dwNil {p : UInt8 → Bool} : ∀ {l : List UInt8}, l.dropWhile p = [] → ∀ x ∈ l, p x = true
  | [], _, x, hx => by simp at hx
  | y :: l, h, x, hx => by
    rw [List.dropWhile_cons] at h
    split at h
    · rename_i hy
      rcases List.mem_cons.1 hx with rfl | hx
      · exact hy
      · exact dwNil h x hx
    · cases h
theorem last_snoc (l : List UInt8) (x : UInt8) : (l ++ [x]).getLast? = some x := by simp
theorem split44 : ∀ {l : List UInt8}, 44 ∈ l → ∃ a b, l = a ++ 44 :: b ∧ 44 ∉ a
  | [], h => by simp at h
  | x :: t, h => by
    by_cases hx : x = 44
    · subst hx; exact ⟨[], t, rfl, by simp⟩
    · obtain ⟨a, b, h1, h2⟩ := split44 (l := t) (by rcases List.mem_cons.1 h with h | h; exact absurd h.symm hx; exact h)
      refine ⟨x :: a, b, by rw [h1]; rfl, fun hm => ?_⟩
      rcases List.mem_cons.1 hm with h | h
      · exact hx h.symm
      · exact h2 h
theorem trim_ne {l : List UInt8} {c : UInt8} (hm : c ∈ l) (hb : bl c = false) : Lib.trimS l blank ≠ [] := by
  obtain ⟨a, b, rfl⟩ := List.append_of_mem hm
  intro h
  have h1 : Lib.trimRightS (a ++ c :: b) blank = (a ++ [c]) ++ Lib.trimRightS b blank := by
    rw [show a ++ c :: b = (a ++ [c]) ++ b by simp]
    exact trimR_app (d := c) (by simp) hb
  unfold Lib.trimS Lib.trimLeftS at h
  rw [h1] at h
  have := dwNil h c (by simp)
  exact absurd this (by simpa [bl] using hb)
theorem trim_sub {l : List UInt8} : ∀ c ∈ Lib.trimS l blank, c ∈ l := by
  intro c hc
  unfold Lib.trimS Lib.trimLeftS Lib.trimRightS at hc
  have h1 := List.dropWhile_sublist (fun x => blank.contains x) |>.subset hc
  have h2 := List.mem_reverse.1 h1
  exact List.mem_reverse.1 (List.dropWhile_sublist (fun x => blank.contains x) |>.subset h2)
theorem addP_no34 {cur : List UInt8} {c : UInt8} {out : List Tg} (hm : c ∈ cur) (hb : bl c = false) (h : ∀ d ∈ cur, d ≠ 34) : addP cur out = none := by
  unfold addP
  rw [if_neg (q_size (trim_ne hm hb)), tag_no34 (y := trimQ cur) (fun d hd => h d (trim_sub d (by simpa [trimQ] using hd)))]
  rfl

theorem rd_rf : ∀ (n : Nat) (l : List UInt8) (out : List Tg), l.length < n → (∀ c, l.head? = some c → bl c = false) → rdL n l out = finR (rfL l false [] out) := by
  intro n
  induction n with
  | zero => intro l out h; omega
  | succ n ih =>
    intro l out hn hh
    cases l with
    | nil =>
      rw [rdL, if_pos rfl, rfL, addP_nil]; rfl
    | cons c r =>
      have hcb := hh c rfl
      rw [rdL, if_neg (by simp)]
      by_cases h44 : c = 44
      · subst h44
        rw [if_pos (by rfl)]
        have hl := lefT_len r
        obtain ⟨_, _, _, h3⟩ := left_split r
        show rdL n (lefT r) out = _
        rw [ih _ _ (by simp at hn; omega) h3, rf_left]
        have : rfL (44 :: r) false [] out = rfL r false [] out := by
          simp only [rfL]
          rw [nq_no (by decide), if_neg (by simp), addP_nil]
        rw [this]
      · rw [if_neg (by simp only [List.head?_cons, Option.some.injEq]; exact h44)]
        -- the parts up to the first comma
        have nopart : ∀ p x, c :: r = p ++ x → (∀ d ∈ p, d ≠ 34 ∧ d ≠ 44) → p ≠ [] → (x = [] ∨ ∃ y, x = 44 :: y) → rfL (c :: r) false [] out = none := by
          intro p x he hp hpn hx
          have hcp : c ∈ p := by
            cases p with
            | nil => exact absurd rfl hpn
            | cons a b => simp only [List.cons_append, List.cons.injEq] at he; rw [he.1]; exact List.mem_cons_self ..
          have hbad : addP p out = none := addP_no34 hcp hcb (fun d hd => (hp d hd).1)
          rw [he, rf_part x out hp, List.nil_append]
          rcases hx with rfl | ⟨y, rfl⟩
          · exact hbad
          · simp only [rfL]
            rw [nq_no (by decide), if_neg (by simp), hbad]
        by_cases h1 : (twq (c :: r)).length < (c :: r).length
        · rw [if_pos h1]
          have hs1 := split34 _ h1
          have hn1 := tw_no (c :: r)
          generalize hpre : twq (c :: r) = pre at *
          generalize hr1 : dwq (c :: r) = r1 at *
          by_cases hp44 : 44 ∈ pre
          · -- a comma ahead of the first quote
            have hnone : rfL (c :: r) false [] out = none := by
              obtain ⟨a, b, hab, hna⟩ := split44 hp44
              refine nopart a (44 :: (b ++ 34 :: r1)) (by rw [hs1, hab]; simp) (fun d hd => ⟨hn1 d (by rw [hab]; exact List.mem_append_left _ hd), fun e => hna (by rw [← e]; exact hd)⟩) ?_ (.inr ⟨_, rfl⟩)
              rintro rfl
              rw [hab] at hs1
              simp only [List.nil_append, List.cons_append, List.cons.injEq] at hs1
              exact h44 hs1.1
            rw [hnone]
            split
            · rw [tag_pre hn1 hp44]; rfl
            · rfl
          · have hpp : ∀ d ∈ pre, d ≠ 34 ∧ d ≠ 44 := fun d hd => ⟨hn1 d hd, fun e => hp44 (by rw [← e]; exact hd)⟩
            have hrf1 : rfL (c :: r) false [] out = rfL r1 true (pre ++ [34]) out := by
              rw [hs1, rf_part _ out hpp, rf_34, List.nil_append]; rfl
            rw [hrf1]
            by_cases h2 : (twq r1).length < r1.length
            · rw [if_pos h2]
              have hs2 := split34 _ h2
              have hn2 := tw_no r1
              have hlen : r1.length ≤ r.length := by
                have := congrArg List.length hs1
                simp only [List.length_cons, List.length_append] at this; omega
              generalize hmid : twq r1 = mid at *
              generalize hr2 : dwq r1 = r2 at *
              have hlen2 : r2.length < r1.length := by
                have := congrArg List.length hs2
                simp only [List.length_cons, List.length_append] at this; omega
              have hrf2 : rfL r1 true (pre ++ [34]) out = rfL r2 false (pre ++ 34 :: (mid ++ [34])) out := by
                rw [hs2, rf_quo _ out hn2, rf_34]
                simp
              rw [hrf2]
              have hhead : (pre ++ 34 :: (mid ++ [34])).head? = some c := by
                cases pre with
                | nil => simp at hs1 ⊢; exact hs1.1.symm
                | cons a b => simp at hs1 ⊢; exact hs1.1.symm
              have hlast : (pre ++ 34 :: (mid ++ [34])).getLast? = some 34 := by
                have e : pre ++ 34 :: (mid ++ [34]) = (pre ++ 34 :: mid) ++ [34] := by simp
                rw [e]; exact last_snoc _ _
              obtain ⟨bs, hb1, hb2, hb3⟩ := left_split r2
              have hbp : ∀ d ∈ bs, d ≠ 34 ∧ d ≠ 44 := fun d hd => by
                have := hb1 d hd
                exact ⟨fun e => by subst e; exact absurd this (by decide), fun e => by subst e; exact absurd this (by decide)⟩
              have hrf3 : rfL r2 false (pre ++ 34 :: (mid ++ [34])) out = rfL (lefT r2) false ((pre ++ 34 :: (mid ++ [34])) ++ bs) out := by
                conv => lhs; rw [hb2]
                rw [rf_part _ out hbp]
              rw [hrf3]
              have htr : trimQ ((pre ++ 34 :: (mid ++ [34])) ++ bs) = mkB (pre ++ 34 :: (mid ++ [34])) := by
                unfold trimQ mkB
                rw [trim_app hhead hcb hlast (by decide), trimR_nil hb1, List.append_nil]
              have hadd : addP ((pre ++ 34 :: (mid ++ [34])) ++ bs) out = (tagS (mkB (pre ++ 34 :: (mid ++ [34])))).map fun t => out ++ [t] := by
                unfold addP
                rw [if_neg (q_size (trim_ne (c := c) (List.mem_append_left _ (List.mem_of_mem_head? hhead)) hcb)), htr]
              have hll := lefT_len r2
              cases hl2 : lefT r2 with
              | nil =>
                rw [rfL, hadd]
                cases tagS (mkB (pre ++ 34 :: (mid ++ [34]))) with
                | none => rfl
                | some t =>
                  simp only [Option.map_some, ne_eq, not_true_eq_false, false_and, if_false]
                  cases n with
                  | zero => simp at hn
                  | succ n => rw [rdL, if_pos rfl]; simp [finR]
              | cons d r3 =>
                have hdb := hb3 d (by rw [hl2]; rfl)
                by_cases hd44 : d = 44
                · subst hd44
                  have hrf4 : rfL (44 :: r3) false ((pre ++ 34 :: (mid ++ [34])) ++ bs) out = match addP ((pre ++ 34 :: (mid ++ [34])) ++ bs) out with | none => none | some o => rfL r3 false [] o := by
                    simp only [rfL]
                    rw [nq_no (by decide), if_neg (by simp)]
                  rw [hrf4, hadd]
                  cases tagS (mkB (pre ++ 34 :: (mid ++ [34]))) with
                  | none => rfl
                  | some t =>
                    simp only [Option.map_some]
                    rw [if_neg (by simp), ih _ _ (by rw [hl2] at hll; simp only [List.length_cons] at *; omega) (fun x hx => by simp at hx; subst hx; decide)]
                    have : rfL (44 :: r3) false [] (out ++ [t]) = rfL r3 false [] (out ++ [t]) := by
                      simp only [rfL]
                      rw [nq_no (by decide), if_neg (by simp), addP_nil]
                    rw [this]
                · have hbad : rfL (d :: r3) false ((pre ++ 34 :: (mid ++ [34])) ++ bs) out = none := by
                    have hstep : rfL (d :: r3) false ((pre ++ 34 :: (mid ++ [34])) ++ bs) out = rfL r3 (nq d false) ((pre ++ 34 :: (mid ++ [34])) ++ bs ++ [d]) out := by
                      simp only [rfL]
                      rw [if_pos (.inr hd44)]
                    rw [hstep]
                    refine rf_bad _ _ _ fun x => ?_
                    have htr2 : trimQ ((pre ++ 34 :: (mid ++ [34])) ++ bs ++ [d] ++ x) = mkB (pre ++ 34 :: (mid ++ 34 :: (bs ++ d :: Lib.trimRightS x blank))) := by
                      unfold trimQ mkB
                      rw [trim_app (c := c) (d := d) (by rw [List.append_assoc, List.head?_append, hhead]; rfl) hcb (last_snoc _ _) hdb]
                      simp
                    unfold addP
                    rw [if_neg (q_size (trim_ne (c := d) (by simp) hdb)), htr2, tag_more hn1 hn2 (by simp)]
                    rfl
                  rw [hbad]
                  cases tagS (mkB (pre ++ 34 :: (mid ++ [34]))) with
                  | none => rfl
                  | some t => simp only []; rw [if_pos ⟨by simp, by simp [hd44]⟩]; rfl
            · rw [if_neg h2]
              have hn2 := tw_all r1 h2
              have hrf2 : rfL r1 true (pre ++ [34]) out = addP ((pre ++ [34]) ++ r1) out := by
                have := rf_quo (p := r1) [] out hn2 (pre ++ [34])
                rw [List.append_nil] at this
                rw [this]; rfl
              rw [hrf2]
              have hhead : (pre ++ [34]).head? = some c := by
                cases pre with
                | nil => simp at hs1 ⊢; exact hs1.1.symm
                | cons a b => simp at hs1 ⊢; exact hs1.1.symm
              have htr : trimQ ((pre ++ [34]) ++ r1) = mkB (pre ++ 34 :: Lib.trimRightS r1 blank) := by
                unfold trimQ mkB
                rw [trim_app (d := 34) hhead hcb (by simp) (by decide)]
                simp
              have hsub : ∀ d ∈ Lib.trimRightS r1 blank, d ≠ 34 := fun d hd => hn2 d (by
                unfold Lib.trimRightS at hd
                exact List.mem_reverse.1 (List.dropWhile_sublist (fun x => blank.contains x) |>.subset (List.mem_reverse.1 hd)))
              unfold addP
              rw [if_neg (q_size (trim_ne (c := 34) (by simp) (by decide))), htr, tag_one hn1 hsub]
              rfl
        · rw [if_neg h1]
          have hn1 := tw_all _ h1
          -- no quote at all: the part ahead of the first comma is no tag
          have hnone : rfL (c :: r) false [] out = none := by
            refine nopart ((c :: r).takeWhile (· != 44)) ((c :: r).dropWhile (· != 44)) (List.takeWhile_append_dropWhile).symm (fun d hd => ⟨hn1 d (List.takeWhile_sublist _ |>.subset hd), ?_⟩) (by rw [List.takeWhile_cons, if_pos (by simpa using h44)]; simp) ?_
            · intro e
              have : ∀ (t : List UInt8), ∀ d ∈ t.takeWhile (· != 44), d ≠ 44 := by
                intro t
                induction t with
                | nil => simp
                | cons x t iht =>
                  rw [List.takeWhile_cons]
                  split
                  · rename_i hx
                    intro d hm
                    rcases List.mem_cons.1 hm with h | h
                    · subst h; simpa using hx
                    · exact iht d h
                  · simp
              exact this _ d hd e
            · cases hd : (c :: r).dropWhile (· != 44) with
              | nil => exact .inl rfl
              | cons x y =>
                right
                have := List.head?_dropWhile_not (fun z : UInt8 => z != 44) (c :: r)
                rw [hd] at this
                simp at this
                exact ⟨y, by rw [this]⟩
          rw [hnone]; rfl
end Go.Proofs.YtghaopeijncgaaaDoor
