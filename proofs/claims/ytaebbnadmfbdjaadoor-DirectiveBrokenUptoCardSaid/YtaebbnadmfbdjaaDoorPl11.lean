
/- Plain laws of directives: lists joined, in any order, in upper case, with unknown directives, with an open quote. No program in sight. -/
import Derived.Test.YtaebbnadmfbdjaaDoorParse
import Derived.KernelRfl
set_option linter.unusedSimpArgs false
set_option linter.unusedVariables false
namespace Go.Proofs.YtaebbnadmfbdjaaDoor
open Go.RowKit

/-! The splitting as a fold over the bytes: mode 0 outside quotes, 1 inside, 2 behind a backslash inside. -/
structure Sp where
  m : Nat
  cur : List UInt8
  out : List ByteArray
def trimL (l : List UInt8) : ByteArray := ⟨(Lib.trimS l blank).toArray⟩
theorem trimL_of (s : ByteArray) : trimL s.data.toList = trimF s := rfl
def spStep (sep : UInt8) (s : Sp) (c : UInt8) : Sp :=
  if s.m = 2 then ⟨1, s.cur ++ [c], s.out⟩
  else if s.m = 1 then (if c = 92 then ⟨2, s.cur ++ [c], s.out⟩ else if c = 34 then ⟨0, s.cur ++ [c], s.out⟩ else ⟨1, s.cur ++ [c], s.out⟩)
  else (if c = 34 then ⟨1, s.cur ++ [c], s.out⟩ else if c = sep then ⟨0, [], s.out ++ [trimL s.cur]⟩ else ⟨0, s.cur ++ [c], s.out⟩)
def spEnd (s : Sp) : Option (List ByteArray) := if s.m = 0 then some (s.out ++ [trimL s.cur]) else none
def qm (q : Bool) : Nat := if q then 1 else 0

section
variable (sep : UInt8) (cur : List UInt8) (out : List ByteArray) (c : UInt8)
theorem sp0 : spStep sep ⟨0, cur, out⟩ c = if c = 34 then ⟨1, cur ++ [c], out⟩ else if c = sep then ⟨0, [], out ++ [trimL cur]⟩ else ⟨0, cur ++ [c], out⟩ := rfl
theorem sp1 : spStep sep ⟨1, cur, out⟩ c = if c = 92 then ⟨2, cur ++ [c], out⟩ else if c = 34 then ⟨0, cur ++ [c], out⟩ else ⟨1, cur ++ [c], out⟩ := rfl
theorem sp2 : spStep sep ⟨2, cur, out⟩ c = ⟨1, cur ++ [c], out⟩ := rfl
end

theorem ext_snoc (s : ByteArray) {st i : Nat} (hst : st ≤ i) (hi : i < s.size) : (s.extract st (i + 1)).data.toList = (s.extract st i).data.toList ++ [s[i]] := by
  rw [← ByteArray.toList_eq, ← ByteArray.toList_eq, Lib.extract_toList, Lib.extract_toList]
  rw [show i + 1 - st = (i - st) + 1 by omega]
  have hl : i - st < (s.data.toList.drop st).length := by rw [List.length_drop]; have : s.data.toList.length = s.size := by simp
                                                          omega
  rw [List.take_succ_eq_append_getElem hl]
  congr 2
  rw [List.getElem_drop]
  simp only [Array.getElem_toList]
  have : st + (i - st) = i := by omega
  simp only [this]
  rfl
theorem drop_cons (s : ByteArray) {i : Nat} (hi : i < s.size) : s.data.toList.drop i = s[i] :: s.data.toList.drop (i + 1) := by
  rw [List.drop_eq_getElem_cons (by simpa using hi)]; rfl

theorem fin_fold (s : ByteArray) (sep : UInt8) : ∀ (n i st : Nat) (q : Bool) (out : List ByteArray), s.size - i ≤ n → st ≤ i → i ≤ s.size →
    fin s sep i st q out = spEnd ((s.data.toList.drop i).foldl (spStep sep) ⟨qm q, (s.extract st i).data.toList, out⟩) := by
  intro n
  induction n with
  | zero =>
    intro i st q out hn hst hi
    obtain rfl : i = s.size := by omega
    rw [fin, dif_neg (by omega), List.drop_of_length_le (by simp)]
    cases q
    · rfl
    · rfl
  | succ n ih =>
    intro i st q out hn hst hi
    by_cases hlt : i < s.size
    · rw [drop_cons s hlt, List.foldl_cons]
      have hx := ext_snoc s hst hlt
      rw [fin, dif_pos hlt]
      cases q
      · rw [if_neg (by simp)]
        by_cases h34 : s[i] = 34
        · rw [if_pos h34, ih _ _ _ _ (by omega) (by omega) (by omega), hx, show qm false = 0 from rfl, sp0, if_pos h34]; rfl
        · rw [if_neg h34]
          by_cases hsp : s[i] = sep
          · rw [if_pos ⟨rfl, hsp⟩, ih _ _ _ _ (by omega) (by omega) (by omega)]
            have he : (s.extract (i + 1) (i + 1)).data.toList = [] := by
              rw [← ByteArray.toList_eq, Lib.extract_toList]; simp
            rw [he, ← trimL_of, show qm false = 0 from rfl, sp0, if_neg h34, if_pos hsp]
          · rw [if_neg (by simp [hsp]), ih _ _ _ _ (by omega) (by omega) (by omega), hx, show qm false = 0 from rfl, sp0, if_neg h34, if_neg hsp]
      · by_cases h92 : s[i] = 92
        · rw [if_pos ⟨rfl, h92⟩]
          have h1 : spStep sep ⟨qm true, (s.extract st i).data.toList, out⟩ s[i] = ⟨2, (s.extract st (i + 1)).data.toList, out⟩ := by
            rw [hx, show qm true = 1 from rfl, sp1, if_pos h92]
          rw [h1]
          by_cases h2 : i + 1 < s.size
          · rw [drop_cons s h2, List.foldl_cons, ih _ _ _ _ (by omega) (by omega) (by omega), ext_snoc s (by omega) h2, sp2]; rfl
          · rw [fin, dif_neg (by omega), List.drop_of_length_le (by simp; omega)]
            rfl
        · rw [if_neg (by simp [h92])]
          by_cases h34 : s[i] = 34
          · rw [if_pos h34, ih _ _ _ _ (by omega) (by omega) (by omega), hx, show qm true = 1 from rfl, sp1, if_neg h92, if_pos h34]; rfl
          · rw [if_neg h34, if_neg (by simp), ih _ _ _ _ (by omega) (by omega) (by omega), hx, show qm true = 1 from rfl, sp1, if_neg h92, if_neg h34]
    · obtain rfl : i = s.size := by omega
      rw [fin, dif_neg (by omega), List.drop_of_length_le (by simp)]
      cases q
      · rfl
      · rfl
def spRun (sep : UInt8) (l : List UInt8) : Sp := l.foldl (spStep sep) ⟨0, [], []⟩
theorem parts_fold (s : ByteArray) (sep : UInt8) : partsS s sep = if ctlS s = true then none else spEnd (spRun sep s.data.toList) := by
  unfold partsS
  rw [fin_fold s sep s.size 0 0 false [] (by omega) (Nat.le_refl _) (by omega)]
  have : (s.extract 0 0).data.toList = [] := by rw [← ByteArray.toList_eq, Lib.extract_toList]; simp
  rw [this]
  rfl

theorem sp_out (sep : UInt8) (out : List ByteArray) : ∀ (l : List UInt8) (s : Sp), l.foldl (spStep sep) ⟨s.m, s.cur, out ++ s.out⟩ = ⟨(l.foldl (spStep sep) s).m, (l.foldl (spStep sep) s).cur, out ++ (l.foldl (spStep sep) s).out⟩
  | [], s => rfl
  | c :: l, s => by
    rw [List.foldl_cons, List.foldl_cons, ← sp_out sep out l (spStep sep s c)]
    congr 1
    simp only [spStep]
    split
    · rfl
    · split
      · split
        · rfl
        · split <;> rfl
      · split
        · rfl
        · split
          · simp
          · rfl
theorem sp_join {a b : List UInt8} {sep : UInt8} (hs : sep ≠ 34) {la : List ByteArray} (h : spEnd (spRun sep a) = some la) : spEnd (spRun sep (a ++ sep :: b)) = (spEnd (spRun sep b)).map (la ++ ·) := by
  unfold spRun at *
  rw [List.foldl_append, List.foldl_cons]
  generalize a.foldl (spStep sep) ⟨0, [], []⟩ = s at *
  obtain ⟨m, cur, out⟩ := s
  unfold spEnd at h
  split at h
  · rename_i h0
    have h0 : m = 0 := h0
    subst h0
    injection h with h
    have h1 : spStep sep ⟨0, cur, out⟩ sep = ⟨0, [], la⟩ := by
      rw [sp0, if_neg hs, if_pos rfl]; exact congrArg (Sp.mk 0 []) h
    rw [h1]
    have h2 := sp_out sep la b ⟨0, [], []⟩
    simp only [List.append_nil] at h2
    rw [h2]
    unfold spEnd
    split
    · simp
    · rfl
  · cases h
/-! Directives. -/
theorem D.eq_of {a b : D} (h0 : a.b0 = b.b0) (h1 : a.b1 = b.b1) (h2 : a.b2 = b.b2) (h3 : a.b3 = b.b3) (h4 : a.b4 = b.b4) (h5 : a.b5 = b.b5) (g0 : a.n0 = b.n0) (g1 : a.n1 = b.n1) (g2 : a.n2 = b.n2) (g3 : a.n3 = b.n3) (g4 : a.n4 = b.n4) (g5 : a.n5 = b.n5) : a = b := by
  cases a; cases b; simp_all
def stepF (d : D) (k : Nat) (t u v : Int) : D :=
  ⟨d.b0 || (k == 0), d.b1 || (k == 1), d.b2 || (k == 2), d.b3 || (k == 3), d.b4 || (k == 4 || k == 5), d.b5 || (k == 6),
   if k = 7 then lst d.n0 t else d.n0, if k = 8 then lst d.n1 t else d.n1, if k = 9 then lst d.n2 t else d.n2, if k = 10 then lst d.n3 t else d.n3, if k = 11 then lst d.n4 u else d.n4, if k = 12 then max d.n5 v else d.n5⟩
theorem stepK_eq (d : D) (k : Nat) (t u v : Int) : stepK d k t u v = stepF d k t u v := by
  unfold stepK
  split <;> simp [stepF]
  rename_i h0 h1 h2 h3 h4 h5 h6 h7 h8 h9 h10 h11 h12
  cases d
  simp_all
theorem lst_swap {a t u : Int} (ht : 0 ≤ t) (hu : 0 ≤ u) : lst (lst a t) u = lst (lst a u) t := by
  unfold lst
  by_cases ha : a < 0
  · rw [if_pos ha, if_pos ha, if_neg (by omega), if_neg (by omega), if_neg (by omega), if_neg (by omega)]; omega
  · rw [if_neg ha, if_neg ha, if_neg (by omega), if_neg (by omega), if_neg (by omega), if_neg (by omega), if_neg (by omega), if_neg (by omega)]; omega
theorem stepD_swap (d : D) (x y : ByteArray) : stepD (stepD d x) y = stepD (stepD d y) x := by
  unfold stepD
  simp only [stepK_eq]
  have a1 := timeV_range (argE x) (thE x) (bad := 0) (miss := 0) (by decide) (by decide)
  have a2 := timeV_range (argE x) (thE x) (bad := 0) (miss := 2147483647) (by decide) (by decide)
  have a3 := timeV_range (argE y) (thE y) (bad := 0) (miss := 0) (by decide) (by decide)
  have a4 := timeV_range (argE y) (thE y) (bad := 0) (miss := 2147483647) (by decide) (by decide)
  generalize kindE (lowS (nameE x)) = k at *
  generalize kindE (lowS (nameE y)) = l at *
  generalize timeV (argE x) (thE x) 0 0 = t1 at *
  generalize timeV (argE x) (thE x) 0 2147483647 = t2 at *
  generalize timeV (argE x) (thE x) 2147483647 2147483647 = t3 at *
  generalize timeV (argE y) (thE y) 0 0 = u1 at *
  generalize timeV (argE y) (thE y) 0 2147483647 = u2 at *
  generalize timeV (argE y) (thE y) 2147483647 2147483647 = u3 at *
  have hb : ∀ a p q : Bool, (a || p || q) = (a || q || p) := by decide
  apply D.eq_of
  · exact hb _ _ _
  · exact hb _ _ _
  · exact hb _ _ _
  · exact hb _ _ _
  · exact hb _ _ _
  · exact hb _ _ _
  all_goals simp only [stepF]
  · by_cases h1 : k = 7 <;> by_cases h2 : l = 7 <;> simp [h1, h2, lst_swap a1 a3]
  · by_cases h1 : k = 8 <;> by_cases h2 : l = 8 <;> simp [h1, h2, lst_swap a1 a3]
  · by_cases h1 : k = 9 <;> by_cases h2 : l = 9 <;> simp [h1, h2, lst_swap a1 a3]
  · by_cases h1 : k = 10 <;> by_cases h2 : l = 10 <;> simp [h1, h2, lst_swap a1 a3]
  · by_cases h1 : k = 11 <;> by_cases h2 : l = 11 <;> simp [h1, h2, lst_swap a2 a4]
  · by_cases h1 : k = 12 <;> by_cases h2 : l = 12 <;> simp [h1, h2] <;> omega
theorem fold_perm {xs ys : List ByteArray} (h : xs.Perm ys) (d : D) : xs.foldl stepD d = ys.foldl stepD d :=
  h.foldl_eq' (fun x _ y _ z => stepD_swap z x y) d
theorem stepV_set (d : D) (v : ByteArray) : stepV { d with b0 := true } v = { stepV d v with b0 := true } := by
  unfold stepV
  split
  · generalize itemsS v = I
    induction I generalizing d with
    | nil => rfl
    | cons x r ih =>
      rw [List.foldl_cons, List.foldl_cons, ← ih]
      congr 1
      unfold stepD
      simp only [stepK_eq, stepF, Bool.true_or]
  · rfl
theorem dirs_set (vs : List ByteArray) (d : D) : vs.foldl stepV { d with b0 := true } = { vs.foldl stepV d with b0 := true } := by
  induction vs generalizing d with
  | nil => rfl
  | cons v r ih => rw [List.foldl_cons, List.foldl_cons, stepV_set, ih]
/-- Are all values lists? -/
def okL (vs : List ByteArray) : Bool := vs.all fun v => (partsS v 44).isSome
theorem dirs_ok {vs : List ByteArray} (h : okL vs = true) (d : D) : vs.foldl stepV d = (vs.flatMap itemsS).foldl stepD d := by
  induction vs generalizing d with
  | nil => rfl
  | cons v r ih =>
    unfold okL at h
    rw [List.all_cons, Bool.and_eq_true] at h
    rw [List.foldl_cons, List.flatMap_cons, List.foldl_append, ih h.2]
    congr 1
    unfold stepV
    rw [h.1, if_pos rfl]
theorem dirs_rev {vs : List ByteArray} (h : okL vs = true) : dirS vs.reverse = dirS vs := by
  unfold dirS
  rw [dirs_ok h, dirs_ok (by unfold okL at *; rw [List.all_reverse]; exact h)]
  exact fold_perm ((List.reverse_perm vs).flatMap_right _) _

/-- Values joined by commas. -/
def joinC : List ByteArray → ByteArray
  | [] => ⟨#[]⟩
  | v :: r => r.foldl (fun a x => a ++ ⟨#[44]⟩ ++ x) v
theorem ctl_app (a b : ByteArray) : ctlS (a ++ b) = (ctlS a || ctlS b) := by unfold ctlS; rw [data_append, List.any_append]
theorem parts_two {a b : ByteArray} {la lb : List ByteArray} (ha : partsS a 44 = some la) (hb : partsS b 44 = some lb) : partsS (a ++ ⟨#[44]⟩ ++ b) 44 = some (la ++ lb) := by
  rw [parts_fold] at *
  split at ha
  · cases ha
  · split at hb
    · cases hb
    · rename_i h1 h2
      have hc : ctlS (a ++ ⟨#[44]⟩ ++ b) = false := by
        rw [ctl_app, ctl_app]
        rw [Bool.not_eq_true] at h1 h2
        rw [h1, h2]; rfl
      rw [hc, if_neg (by simp), data_append, data_append]
      have := sp_join (b := b.data.toList) (by decide : (44 : UInt8) ≠ 34) ha
      rw [hb] at this
      rw [List.append_assoc]
      exact this
theorem items_two {a b : ByteArray} (ha : (partsS a 44).isSome = true) (hb : (partsS b 44).isSome = true) : (partsS (a ++ ⟨#[44]⟩ ++ b) 44).isSome = true ∧ itemsS (a ++ ⟨#[44]⟩ ++ b) = itemsS a ++ itemsS b := by
  obtain ⟨la, ha⟩ := Option.isSome_iff_exists.1 ha
  obtain ⟨lb, hb⟩ := Option.isSome_iff_exists.1 hb
  have := parts_two ha hb
  unfold itemsS
  rw [this, ha, hb]
  exact ⟨rfl, by simp⟩
theorem join_items (r : List ByteArray) : ∀ v : ByteArray, (partsS v 44).isSome = true → okL r = true →
    (partsS (r.foldl (fun a x => a ++ ⟨#[44]⟩ ++ x) v) 44).isSome = true ∧ itemsS (r.foldl (fun a x => a ++ ⟨#[44]⟩ ++ x) v) = itemsS v ++ r.flatMap itemsS := by
  induction r with
  | nil => intro v hv _; exact ⟨hv, by simp⟩
  | cons x r ih =>
    intro v hv h
    unfold okL at h
    rw [List.all_cons, Bool.and_eq_true] at h
    obtain ⟨h1, h2⟩ := items_two hv h.1
    rw [List.foldl_cons, List.flatMap_cons]
    obtain ⟨h3, h4⟩ := ih _ h1 h.2
    exact ⟨h3, by rw [h4, h2, List.append_assoc]⟩
theorem dirs_join {vs : List ByteArray} (h : okL vs = true) : dirS [joinC vs] = dirS vs := by
  unfold dirS
  rw [dirs_ok h]
  show stepV noneD (joinC vs) = _
  cases vs with
  | nil => kernel_rfl
  | cons v r =>
    have h' := h
    unfold okL at h'
    rw [List.all_cons, Bool.and_eq_true] at h'
    obtain ⟨h1, h2⟩ := join_items r v h'.1 h'.2
    unfold stepV joinC
    rw [if_pos h1, h2, List.flatMap_cons]
end Go.Proofs.YtaebbnadmfbdjaaDoor
