/- The canonical text of directives, and that it is read as the directives within their limits. No program in sight. WholeFreshness in plain words: a chain of caches with drifting clocks, and the text of its response's directives. No program in sight. WholeFreshness, one round of the chain in plain words. No program in sight. The walks of quaysidetop.digits, clockOf and policyAwake. The walk of WholeFreshness: it returns true. A chain of caches, and three numbers, opened. Plain facts on readings. -/
import Derived.Test.YtocniclkooiggaaDoorJ4
import Derived.Lib.ItoaNum
import Derived.Lib.ItoaLen
set_option linter.unusedSimpArgs false
set_option linter.unusedVariables false
namespace Go.Proofs.YtocniclkooiggaaDoor

def mkS (l : List UInt8) : ByteArray := ⟨l.toArray⟩
def decS (n : Int) : ByteArray := mkS (Lib.decDigits n.toNat)
/-- The names of the directives, in the order of the canonical text. -/
def wNS : List UInt8 := [110, 111, 45, 115, 116, 111, 114, 101]
def wNC : List UInt8 := [110, 111, 45, 99, 97, 99, 104, 101]
def wPR : List UInt8 := [112, 114, 105, 118, 97, 116, 101]
def wPU : List UInt8 := [112, 117, 98, 108, 105, 99]
def wMR : List UInt8 := [109, 117, 115, 116, 45, 114, 101, 118, 97, 108, 105, 100, 97, 116, 101]
def wOC : List UInt8 := [111, 110, 108, 121, 45, 105, 102, 45, 99, 97, 99, 104, 101, 100]
def wMA : List UInt8 := [109, 97, 120, 45, 97, 103, 101]
def wSM : List UInt8 := [115, 45, 109, 97, 120, 97, 103, 101]
def wWR : List UInt8 := [115, 116, 97, 108, 101, 45, 119, 104, 105, 108, 101, 45, 114, 101, 118, 97, 108, 105, 100, 97, 116, 101]
def wIE : List UInt8 := [115, 116, 97, 108, 101, 45, 105, 102, 45, 101, 114, 114, 111, 114]
def wMS : List UInt8 := [109, 97, 120, 45, 115, 116, 97, 108, 101]
def wMF : List UInt8 := [109, 105, 110, 45, 102, 114, 101, 115, 104]
/-- The element of a flag; that of a time. -/
def elB (b : Bool) (w : List UInt8) : List ByteArray := if b then [mkS w] else []
def elV (w : List UInt8) (n : Int) : ByteArray := mkS w ++ ⟨#[61]⟩ ++ decS n
def elT (w : List UInt8) (n : Int) : List ByteArray := if n < 0 then [] else if w = wMS ∧ n = 2147483647 then [mkS w] else [elV w n]
def elD (d : D) : List ByteArray :=
  elB d.b0 wNS ++ elB d.b1 wNC ++ elB d.b2 wPR ++ elB d.b3 wPU ++ elB d.b4 wMR ++ elB d.b5 wOC ++ elT wMA d.n0 ++ elT wSM d.n1 ++ elT wWR d.n2 ++ elT wIE d.n3 ++ elT wMS d.n4 ++ elT wMF d.n5
def fmtD (d : D) : ByteArray := joinS (elD (nmD d))

/-! A text of plain elements is split into them. -/
/-- Neither a quote nor a comma, nor a control. -/
def okB (c : UInt8) : Bool := !(c == 34) && !(c == 44) && !ctlB c && !bl c
/-- A plain element: not empty, and no other byte in it. -/
def plE (x : ByteArray) : Prop := x.data.toList ≠ [] ∧ x.data.toList.all okB = true
theorem okB_parts {c : UInt8} (h : okB c = true) : c ≠ 34 ∧ c ≠ 44 ∧ ctlB c = false ∧ bl c = false := by
  unfold okB at h
  simp only [Bool.and_eq_true, Bool.not_eq_true', beq_eq_false_iff_ne] at h
  exact ⟨h.1.1.1, h.1.1.2, h.1.2, h.2⟩
theorem run_pl : ∀ (l cur : List UInt8) (out : List ByteArray), l.all okB = true → l.foldl (spStep 44) ⟨0, cur, out⟩ = ⟨0, cur ++ l, out⟩
  | [], cur, out, _ => by simp
  | c :: l, cur, out, h => by
    rw [List.all_cons, Bool.and_eq_true] at h
    obtain ⟨h1, h2, _, _⟩ := okB_parts h.1
    rw [List.foldl_cons, sp0, if_neg h1, if_neg h2, run_pl l (cur ++ [c]) out h.2]
    simp
theorem trim_pl {x : ByteArray} (h : plE x) : trimL x.data.toList = x ∧ trimL (32 :: x.data.toList) = x := by
  obtain ⟨h0, h1⟩ := h
  have hmem : ∀ c ∈ x.data.toList, bl c = false := fun c hc => (okB_parts (List.all_eq_true.1 h1 c hc)).2.2.2
  have hs : Lib.trimS x.data.toList blank = x.data.toList :=
    trimL_self _ (fun c hc => hmem c (List.mem_of_mem_head? (by rw [hc]; rfl))) (fun c hc => hmem c (List.mem_of_mem_getLast? (by rw [hc]; rfl)))
  refine ⟨?_, ?_⟩
  · unfold trimL; rw [hs]
  · unfold trimL; rw [trimL_cons 32 _ (by decide), hs]
/-- The elements behind the first one, each behind a comma and a blank. -/
def tailL (l : List ByteArray) : List UInt8 := l.flatMap fun x => 44 :: 32 :: x.data.toList
theorem join_list (x : ByteArray) (l : List ByteArray) : (joinS (x :: l)).data.toList = x.data.toList ++ tailL l := by
  unfold joinS
  rw [List.map_cons, Lib.join_cons]
  show x.data.toList ++ Lib.joinTail _ _ = _
  congr 1
  induction l with
  | nil => rfl
  | cons y l ih => 
    rw [List.map_cons]
    show [44, 32] ++ y.data.toList ++ Lib.joinTail _ _ = _
    rw [ih]
    simp [tailL]
theorem run_tail : ∀ (l : List ByteArray) (cur : List UInt8) (out : List ByteArray), (∀ x ∈ l, plE x) →
    spEnd ((tailL l).foldl (spStep 44) ⟨0, cur, out⟩) = some (out ++ trimL cur :: l)
  | [], cur, out, _ => rfl
  | x :: l, cur, out, h => by
    have hx := h x (List.mem_cons_self ..)
    have ht : tailL (x :: l) = 44 :: 32 :: (x.data.toList ++ tailL l) := by simp [tailL]
    rw [ht, List.foldl_cons, sp0, if_neg (by decide), if_pos rfl, List.foldl_cons, sp0, if_neg (by decide), if_neg (by decide), List.foldl_append, run_pl _ _ _ hx.2, run_tail l _ _ fun y hy => h y (List.mem_cons_of_mem _ hy)]
    show some ((out ++ [trimL cur]) ++ trimL (32 :: x.data.toList) :: l) = _
    rw [(trim_pl hx).2]
    simp
theorem ctl_join (x : ByteArray) (l : List ByteArray) (h : ∀ y ∈ x :: l, plE y) : ctlS (joinS (x :: l)) = false := by
  unfold ctlS
  rw [join_list, List.any_append, Bool.or_eq_false_iff]
  have hp : ∀ y, plE y → y.data.toList.any ctlB = false := fun y hy => by
    rw [List.any_eq_false]
    intro c hc
    rw [(okB_parts (List.all_eq_true.1 hy.2 c hc)).2.2.1]; decide
  refine ⟨hp x (h x (List.mem_cons_self ..)), ?_⟩
  unfold tailL
  rw [List.any_flatMap, List.any_eq_false]
  intro y hy
  rw [List.any_cons, List.any_cons, hp y (h y (List.mem_cons_of_mem _ hy))]
  decide
theorem parts_join {l : List ByteArray} (h : ∀ y ∈ l, plE y) (hne : l ≠ []) : partsS (joinS l) 44 = some l := by
  cases l with
  | nil => exact absurd rfl hne
  | cons x l =>
    rw [parts_fold, ctl_join x l h, if_neg (by decide)]
    unfold spRun
    rw [join_list, List.foldl_append, run_pl _ _ _ (h x (List.mem_cons_self ..)).2, run_tail l _ _ fun y hy => h y (List.mem_cons_of_mem _ hy)]
    rw [List.nil_append, List.nil_append, (trim_pl (h x (List.mem_cons_self ..))).1]
theorem items_join {l : List ByteArray} (h : ∀ y ∈ l, plE y) (hne : l ≠ []) : itemsS (joinS l) = l := by
  unfold itemsS
  rw [parts_join h hne]
  show l.filter full = l
  rw [List.filter_eq_self]
  intro x hx
  have := (h x hx).1
  unfold full
  cases hx2 : x.data.toList with
  | nil => exact absurd hx2 this
  | cons c r =>
    have hz : x.size = x.data.toList.length := by simp
    rw [hx2, List.length_cons] at hz
    exact decide_eq_true (by omega)
theorem dir_join {l : List ByteArray} (h : ∀ y ∈ l, plE y) : dirS [joinS l] = l.foldl stepD noneD := by
  show stepV noneD (joinS l) = _
  by_cases hne : l = []
  · subst hne
    unfold stepV
    rw [show (partsS (joinS []) 44).isSome = true by decide +kernel, show itemsS (joinS []) = [] by decide +kernel]; rfl
  · unfold stepV
    rw [parts_join h hne, items_join h hne]; rfl

/-! Digits. -/
theorem dec_digit {k : Nat} (h : k < 10) : digB (UInt8.ofNat (48 + k)) = true ∧ ((UInt8.ofNat (48 + k)).toNat : Int) - 48 = k ∧ okB (UInt8.ofNat (48 + k)) = true ∧ UInt8.ofNat (48 + k) ≠ 61 := by
  have : k = 0 ∨ k = 1 ∨ k = 2 ∨ k = 3 ∨ k = 4 ∨ k = 5 ∨ k = 6 ∨ k = 7 ∨ k = 8 ∨ k = 9 := by omega
  rcases this with h | h | h | h | h | h | h | h | h | h <;> subst h <;> decide
theorem dec_small {u : Nat} (h : u < 10) : Lib.decDigits u = [UInt8.ofNat (48 + u)] := by rw [Lib.decDigits, dif_pos h]
theorem dec_big {u : Nat} (h : ¬ u < 10) : Lib.decDigits u = Lib.decDigits (u / 10) ++ [UInt8.ofNat (48 + u % 10)] := by rw [Lib.decDigits, dif_neg h]
theorem dec_all : ∀ (n u : Nat), u ≤ n → (Lib.decDigits u).all digB = true ∧ (Lib.decDigits u).all okB = true ∧ Lib.decDigits u ≠ []
  | n, u, hn => by
    by_cases h : u < 10
    · rw [dec_small h]
      obtain ⟨a, _, b, _⟩ := dec_digit h
      refine ⟨by rw [List.all_cons, a]; rfl, by rw [List.all_cons, b]; rfl, by simp⟩
    · rw [dec_big h]
      obtain ⟨a, _, b, _⟩ := dec_digit (show u % 10 < 10 by omega)
      match n, hn with
      | 0, hn => omega
      | n + 1, hn =>
        obtain ⟨c, d, _⟩ := dec_all n (u / 10) (by omega)
        refine ⟨by rw [List.all_append, c, List.all_cons, a]; rfl, by rw [List.all_append, d, List.all_cons, b]; rfl, by simp⟩
theorem num_dec : ∀ (n u : Nat), u ≤ n → (u : Int) ≤ 2147483647 → numV (Lib.decDigits u) = u
  | n, u, hn, hu => by
    by_cases h : u < 10
    · rw [dec_small h]
      obtain ⟨_, a, _, _⟩ := dec_digit h
      unfold numV
      rw [List.foldl_cons, List.foldl_nil, a]
      omega
    · rw [dec_big h]
      obtain ⟨_, a, _, _⟩ := dec_digit (show u % 10 < 10 by omega)
      match n, hn with
      | 0, hn => omega
      | n + 1, hn =>
        have ih := num_dec n (u / 10) (by omega) (by omega)
        unfold numV at *
        rw [List.foldl_append, ih, List.foldl_cons, List.foldl_nil, a]
        omega
theorem head_dec (u : Nat) : (Lib.decDigits u).head? ≠ some 34 := by
  intro h
  have hm := List.mem_of_mem_head? (by rw [h]; rfl : (34 : UInt8) ∈ (Lib.decDigits u).head?)
  have := List.all_eq_true.1 (dec_all u u (Nat.le_refl _)).1 34 hm
  exact absurd this (by decide)
theorem time_dec {n : Int} (h0 : 0 ≤ n) (h1 : n ≤ 2147483647) (bad miss : Int) : timeV (decS n) true bad miss = n := by
  have hu : n.toNat ≤ n.toNat := Nat.le_refl _
  obtain ⟨a, b, c⟩ := dec_all _ _ hu
  have hq : isQ (decS n) = false := by
    unfold isQ
    have := head_dec n.toNat
    show ((mkS (Lib.decDigits n.toNat)).data.toList.head? == some 34) = false
    simpa [mkS] using this
  obtain ⟨e1, e2⟩ := okQ_plain hq
  have hl : (decS n).data.toList = Lib.decDigits n.toNat := by simp [decS, mkS]
  have hk : okN (decS n) = true := by
    unfold okN
    rw [hl, a]
    have : 0 < (decS n).size := by
      have h2 : (decS n).size = (Lib.decDigits n.toNat).length := by simp [decS, mkS, ByteArray.size]
      rw [h2]
      exact List.length_pos_iff.2 c
    simp [this]
  unfold timeV
  rw [if_pos rfl, e2, if_pos hk, e1]
  unfold numR
  rw [hl, if_pos a, num_dec _ _ hu (by omega)]
  omega
theorem idx_eq (r : List UInt8) : ∀ w : List UInt8, w.all (fun c => c != 61) = true → Lib.index (w ++ 61 :: r) [61] = (w.length : Int)
  | [], _ => by simp [Lib.index, List.isPrefixOf]
  | c :: w, h => by
    rw [List.all_cons, Bool.and_eq_true] at h
    have hc : c ≠ 61 := by simpa using h.1
    have ih := idx_eq r w h.2
    rw [List.cons_append, Lib.index, if_neg (by simp [List.isPrefixOf]; exact fun e => hc e.symm), ih, if_neg (by simp)]
    simp
theorem cut_dec {w : List UInt8} (hw : w.all (fun c => c != 61) = true) (n : Int) : eqName (elV w n) = mkS w ∧ argE (elV w n) = decS n ∧ thE (elV w n) = true := by
  have hl : (elV w n).data.toList = w ++ 61 :: Lib.decDigits n.toNat := by
    unfold elV
    rw [data_append, data_append]
    simp [mkS, decS]
  have hc : Lib.cut (w ++ 61 :: Lib.decDigits n.toNat) [61] = (w, Lib.decDigits n.toNat, true) := by
    unfold Lib.cut
    rw [idx_eq _ w hw, if_pos (by omega)]
    simp
  unfold eqName argE thE
  rw [hl, hc]
  exact ⟨rfl, rfl, rfl⟩
theorem step_b0 (d : D) : stepD d (mkS wNS) = { d with b0 := true } := by unfold stepD; rw [show kindE (lowS (eqName (mkS wNS))) = 0 by decide +kernel]; rfl
theorem step_b1 (d : D) : stepD d (mkS wNC) = { d with b1 := true } := by unfold stepD; rw [show kindE (lowS (eqName (mkS wNC))) = 1 by decide +kernel]; rfl
theorem step_b2 (d : D) : stepD d (mkS wPR) = { d with b2 := true } := by unfold stepD; rw [show kindE (lowS (eqName (mkS wPR))) = 2 by decide +kernel]; rfl
theorem step_b3 (d : D) : stepD d (mkS wPU) = { d with b3 := true } := by unfold stepD; rw [show kindE (lowS (eqName (mkS wPU))) = 3 by decide +kernel]; rfl
theorem step_b4 (d : D) : stepD d (mkS wMR) = { d with b4 := true } := by unfold stepD; rw [show kindE (lowS (eqName (mkS wMR))) = 4 by decide +kernel]; rfl
theorem step_b5 (d : D) : stepD d (mkS wOC) = { d with b5 := true } := by unfold stepD; rw [show kindE (lowS (eqName (mkS wOC))) = 6 by decide +kernel]; rfl
section
variable (d : D) {n : Int} (h0 : 0 ≤ n) (h1 : n ≤ 2147483647)
include h0 h1
theorem step_n0 : stepD d (elV wMA n) = { d with n0 := lst d.n0 n } := by
  obtain ⟨a, b, c⟩ := cut_dec (w := wMA) (by decide) n
  unfold stepD; rw [a, b, c, show kindE (lowS (mkS wMA)) = 7 by decide +kernel, time_dec h0 h1]; rfl
theorem step_n1 : stepD d (elV wSM n) = { d with n1 := lst d.n1 n } := by
  obtain ⟨a, b, c⟩ := cut_dec (w := wSM) (by decide) n
  unfold stepD; rw [a, b, c, show kindE (lowS (mkS wSM)) = 8 by decide +kernel, time_dec h0 h1]; rfl
theorem step_n2 : stepD d (elV wWR n) = { d with n2 := lst d.n2 n } := by
  obtain ⟨a, b, c⟩ := cut_dec (w := wWR) (by decide) n
  unfold stepD; rw [a, b, c, show kindE (lowS (mkS wWR)) = 9 by decide +kernel, time_dec h0 h1]; rfl
theorem step_n3 : stepD d (elV wIE n) = { d with n3 := lst d.n3 n } := by
  obtain ⟨a, b, c⟩ := cut_dec (w := wIE) (by decide) n
  unfold stepD; rw [a, b, c, show kindE (lowS (mkS wIE)) = 10 by decide +kernel, time_dec h0 h1]; rfl
theorem step_n4 : stepD d (elV wMS n) = { d with n4 := lst d.n4 n } := by
  obtain ⟨a, b, c⟩ := cut_dec (w := wMS) (by decide) n
  unfold stepD; rw [a, b, c, show kindE (lowS (mkS wMS)) = 11 by decide +kernel, time_dec h0 h1, time_dec h0 h1]; rfl
theorem step_n5 : stepD d (elV wMF n) = { d with n5 := max d.n5 n } := by
  obtain ⟨a, b, c⟩ := cut_dec (w := wMF) (by decide) n
  unfold stepD; rw [a, b, c, show kindE (lowS (mkS wMF)) = 12 by decide +kernel, time_dec h0 h1, time_dec h0 h1, time_dec h0 h1]; rfl
end
theorem step_n4m (d : D) : stepD d (mkS wMS) = { d with n4 := lst d.n4 2147483647 } := by
  unfold stepD
  rw [show kindE (lowS (eqName (mkS wMS))) = 11 by decide +kernel, show timeV (argE (mkS wMS)) (thE (mkS wMS)) 0 2147483647 = 2147483647 by decide +kernel]; rfl
theorem lst_none {n : Int} (h : 0 ≤ n) : lst (-1) n = n := by unfold lst; rw [if_pos (by decide)]
theorem fold_T (w : List UInt8) (hw : w ≠ wMS) (n : Int) (d : D) : (elT w n).foldl stepD d = if n < 0 then d else stepD d (elV w n) := by
  unfold elT
  split
  · rfl
  · rw [if_neg (fun e => hw e.1)]; rfl
theorem fold_B (b : Bool) (w : List UInt8) (d : D) : (elB b w).foldl stepD d = if b then stepD d (mkS w) else d := by
  unfold elB; cases b <;> rfl
/-- The elements of directives within their limits, read one after the other. -/
theorem fold_el {d : D} (h : nmD d = d) : (elD d).foldl stepD noneD = d := by
  have hb : ∀ n : Int, nmT n = n → -1 ≤ n ∧ n ≤ 2147483647 := fun n h => by unfold nmT at h; omega
  obtain ⟨b0, b1, b2, b3, b4, b5, n0, n1, n2, n3, n4, n5⟩ := d
  unfold nmD at h
  injection h with _ _ _ _ _ _ h0 h1 h2 h3 h4 h5
  replace h0 := hb _ h0
  replace h1 := hb _ h1
  replace h2 := hb _ h2
  replace h3 := hb _ h3
  replace h4 := hb _ h4
  replace h5 := hb _ h5
  simp only at h0 h1 h2 h3 h4 h5
  unfold elD
  simp only [List.foldl_append]
  have e0 : (elB b0 wNS).foldl stepD noneD = ⟨b0, false, false, false, false, false, -1, -1, -1, -1, -1, -1⟩ := by
    rw [fold_B, step_b0]; cases b0 <;> rfl
  rw [e0]
  have e1 : (elB b1 wNC).foldl stepD ⟨b0, false, false, false, false, false, -1, -1, -1, -1, -1, -1⟩ = ⟨b0, b1, false, false, false, false, -1, -1, -1, -1, -1, -1⟩ := by
    rw [fold_B, step_b1]; cases b1 <;> rfl
  rw [e1]
  have e2 : (elB b2 wPR).foldl stepD ⟨b0, b1, false, false, false, false, -1, -1, -1, -1, -1, -1⟩ = ⟨b0, b1, b2, false, false, false, -1, -1, -1, -1, -1, -1⟩ := by
    rw [fold_B, step_b2]; cases b2 <;> rfl
  rw [e2]
  have e3 : (elB b3 wPU).foldl stepD ⟨b0, b1, b2, false, false, false, -1, -1, -1, -1, -1, -1⟩ = ⟨b0, b1, b2, b3, false, false, -1, -1, -1, -1, -1, -1⟩ := by
    rw [fold_B, step_b3]; cases b3 <;> rfl
  rw [e3]
  have e4 : (elB b4 wMR).foldl stepD ⟨b0, b1, b2, b3, false, false, -1, -1, -1, -1, -1, -1⟩ = ⟨b0, b1, b2, b3, b4, false, -1, -1, -1, -1, -1, -1⟩ := by
    rw [fold_B, step_b4]; cases b4 <;> rfl
  rw [e4]
  have e5 : (elB b5 wOC).foldl stepD ⟨b0, b1, b2, b3, b4, false, -1, -1, -1, -1, -1, -1⟩ = ⟨b0, b1, b2, b3, b4, b5, -1, -1, -1, -1, -1, -1⟩ := by
    rw [fold_B, step_b5]; cases b5 <;> rfl
  rw [e5]
  have f0 : (elT wMA n0).foldl stepD ⟨b0, b1, b2, b3, b4, b5, -1, -1, -1, -1, -1, -1⟩ = ⟨b0, b1, b2, b3, b4, b5, n0, -1, -1, -1, -1, -1⟩ := by
    rw [fold_T _ (by decide)]
    split
    · rw [show n0 = -1 by omega]
    · rw [step_n0 _ (by omega) (by omega), lst_none (by omega)]
  rw [f0]
  have f1 : (elT wSM n1).foldl stepD ⟨b0, b1, b2, b3, b4, b5, n0, -1, -1, -1, -1, -1⟩ = ⟨b0, b1, b2, b3, b4, b5, n0, n1, -1, -1, -1, -1⟩ := by
    rw [fold_T _ (by decide)]
    split
    · rw [show n1 = -1 by omega]
    · rw [step_n1 _ (by omega) (by omega), lst_none (by omega)]
  rw [f1]
  have f2 : (elT wWR n2).foldl stepD ⟨b0, b1, b2, b3, b4, b5, n0, n1, -1, -1, -1, -1⟩ = ⟨b0, b1, b2, b3, b4, b5, n0, n1, n2, -1, -1, -1⟩ := by
    rw [fold_T _ (by decide)]
    split
    · rw [show n2 = -1 by omega]
    · rw [step_n2 _ (by omega) (by omega), lst_none (by omega)]
  rw [f2]
  have f3 : (elT wIE n3).foldl stepD ⟨b0, b1, b2, b3, b4, b5, n0, n1, n2, -1, -1, -1⟩ = ⟨b0, b1, b2, b3, b4, b5, n0, n1, n2, n3, -1, -1⟩ := by
    rw [fold_T _ (by decide)]
    split
    · rw [show n3 = -1 by omega]
    · rw [step_n3 _ (by omega) (by omega), lst_none (by omega)]
  rw [f3]
  have f4 : (elT wMS n4).foldl stepD ⟨b0, b1, b2, b3, b4, b5, n0, n1, n2, n3, -1, -1⟩ = ⟨b0, b1, b2, b3, b4, b5, n0, n1, n2, n3, n4, -1⟩ := by
    unfold elT
    split
    · rw [show n4 = -1 by omega]; rfl
    · split
      · rename_i hm
        show stepD _ _ = _
        rw [step_n4m, lst_none (by omega), hm.2]
      · show stepD _ _ = _
        rw [step_n4 _ (by omega) (by omega), lst_none (by omega)]
  rw [f4]
  rw [fold_T _ (by decide)]
  split
  · rw [show n5 = -1 by omega]
  · rw [step_n5 _ (by omega) (by omega), show max (-1) n5 = n5 by omega]
theorem nmT_nm (n : Int) : nmT (nmT n) = nmT n := by unfold nmT; omega
theorem nmD_nm (d : D) : nmD (nmD d) = nmD d := by unfold nmD; simp only [nmT_nm]
theorem pl_B {b : Bool} {w : List UInt8} (hw : w ≠ [] ∧ w.all okB = true) : ∀ x ∈ elB b w, plE x := by
  intro x hx
  unfold elB at hx
  split at hx
  · rw [List.mem_singleton] at hx; subst hx; exact ⟨by simpa [mkS] using hw.1, by simpa [mkS] using hw.2⟩
  · cases hx
theorem pl_T {w : List UInt8} (n : Int) (hw : w ≠ [] ∧ w.all okB = true) : ∀ x ∈ elT w n, plE x := by
  intro x hx
  unfold elT at hx
  split at hx
  · cases hx
  · split at hx
    · rw [List.mem_singleton] at hx; subst hx; exact ⟨by simpa [mkS] using hw.1, by simpa [mkS] using hw.2⟩
    · rw [List.mem_singleton] at hx; subst hx
      have hl : (elV w n).data.toList = w ++ 61 :: Lib.decDigits n.toNat := by
        unfold elV; rw [data_append, data_append]; simp [mkS, decS]
      unfold plE
      rw [hl]
      refine ⟨by simp, ?_⟩
      rw [List.all_append, List.all_cons, hw.2, (dec_all _ _ (Nat.le_refl _)).2.1]
      decide
theorem pl_D (d : D) : ∀ x ∈ elD d, plE x := by
  intro x hx
  unfold elD at hx
  simp only [List.mem_append] at hx
  rcases hx with ((((((((((h | h) | h) | h) | h) | h) | h) | h) | h) | h) | h) | h
  · exact pl_B (by decide) x h
  · exact pl_B (by decide) x h
  · exact pl_B (by decide) x h
  · exact pl_B (by decide) x h
  · exact pl_B (by decide) x h
  · exact pl_B (by decide) x h
  · exact pl_T _ (by decide) x h
  · exact pl_T _ (by decide) x h
  · exact pl_T _ (by decide) x h
  · exact pl_T _ (by decide) x h
  · exact pl_T _ (by decide) x h
  · exact pl_T _ (by decide) x h
/-- The canonical text is read as the directives within their limits; and written again. -/
theorem fmt_back (d : D) : dirS [fmtD d] = nmD d := by
  unfold fmtD
  rw [dir_join (pl_D _), fold_el (nmD_nm d)]
theorem fmt_again (d : D) : fmtD (nmD d) = fmtD d := by unfold fmtD; rw [nmD_nm]
end Go.Proofs.YtocniclkooiggaaDoor

namespace Go.Proofs.YtocniclkooiggaaDoor

theorem rd_mono {off num a b : Int} (hn : 0 ≤ num) (h : a ≤ b) : rdS off num 1000 a ≤ rdS off num 1000 b := by
  unfold rdS
  have := Int.ediv_le_ediv (show (0 : Int) < 1000 by decide) (Int.mul_le_mul_of_nonneg_right h hn)
  omega
theorem rd_bd {off num t : Int} (ho : 0 ≤ off ∧ off ≤ 65535) (hn : 980 ≤ num ∧ num ≤ 1020) (ht : 0 ≤ t) : off ≤ rdS off num 1000 t ∧ 1000 * rdS off num 1000 t ≤ 1000 * off + 1020 * t := by
  unfold rdS
  have h1 : 0 ≤ t * num := Int.mul_nonneg ht (by omega)
  have h2 : t * num ≤ t * 1020 := Int.mul_le_mul_of_nonneg_left hn.2 ht
  omega
/-- What the last cache of a chain knows: the true age is at most the upper bound, which is not above its own bound. -/
theorem chain_at {off num sent t2 T made sp : Int} (ho : 0 ≤ off ∧ off ≤ 65535) (hn : 980 ≤ num ∧ num ≤ 1020) (h0 : 0 ≤ sent) (h1 : sent ≤ t2) (h2 : t2 ≤ T) (h3 : T ≤ 2000000) (hm : sent - made ≤ exA sp) :
    ∃ lo hi, atO ⟨rdS off num 1000 sent, rdS off num 1000 t2, sp⟩ (rdS off num 1000 T) 20000 = some (lo, hi) ∧ T - made ≤ hi ∧ lo ≤ hi ∧ hi ≤ 2 * (T * 1020 / 1000 + 1) + 2 + exA sp ∧ 0 ≤ hi := by
  have a1 := rd_mono (off := off) (num := num) (by omega) h1
  have a2 := rd_mono (off := off) (num := num) (by omega) h2
  have b1 := rd_bd ho hn h0
  have b2 := rd_bd ho hn (show 0 ≤ t2 by omega)
  have b3 := rd_bd ho hn (show 0 ≤ T by omega)
  have c1 := clT_id (n := rdS off num 1000 sent) (by omega) (by omega)
  have c2 := clT_id (n := rdS off num 1000 t2) (by omega) (by omega)
  have c3 := clT_id (n := rdS off num 1000 T) (by omega) (by omega)
  have ht := rd_true (off := off) (num := num) (den := 1000) (t0 := sent) (t1 := T) (P := 20000) (by decide) (by decide) (by decide) (by omega) (by omega)
  have he := elHi_le (d := rdS off num 1000 T - rdS off num 1000 sent) (p := 20000) (by omega) (by decide) (by decide)
  have hx := exA_bd sp
  have hat : atO ⟨rdS off num 1000 sent, rdS off num 1000 t2, sp⟩ (rdS off num 1000 T) 20000 = some (elLo (rdS off num 1000 T - rdS off num 1000 t2) 20000, elHi (rdS off num 1000 T - rdS off num 1000 sent) 20000 + exA sp) := by
    unfold atO
    simp only [c1, c2, c3]
    rw [if_neg (by omega), show clP 20000 = 20000 by decide]
  have ho2 := atO_order hat
  simp only [] at ho2
  refine ⟨_, _, hat, by omega, ho2, ?_, by omega⟩
  have : T * 1020 / 1000 ≤ T * 1020 / 1000 := Int.le_refl _
  omega
/-- The stated age covers the true one. -/
theorem chain_next {hi T made : Int} (h : T - made ≤ hi) (h0 : 0 ≤ hi) (h1 : hi ≤ 100000000) : T - made ≤ exA (hi / 1000) ∧ 0 ≤ hi / 1000 ∧ exA (hi / 1000) ≤ hi + 1000 := by
  unfold exA
  rw [if_pos (by omega)]
  omega

/-! The text of the directives. -/
def chEl (x y z : Int) : List ByteArray := [elV wMA x, elV wWR y, elV wIE z]
def chFs (x y z : Int) : List Fd := [(ccN, joinS (chEl x y z))]
theorem pl_V {w : List UInt8} (n : Int) (hw : w ≠ [] ∧ w.all okB = true) (h : n = 2147483647 → w ≠ wMS) (h0 : 0 ≤ n) : plE (elV w n) := by
  refine pl_T (w := w) n hw (elV w n) ?_
  unfold elT
  rw [if_neg (by omega), if_neg (fun e => h e.2 e.1)]
  exact List.mem_singleton.2 rfl
theorem ch_cc {x y z : Int} (hx : 0 ≤ x ∧ x ≤ 2147483647) (hy : 0 ≤ y ∧ y ≤ 2147483647) (hz : 0 ≤ z ∧ z ≤ 2147483647) : ccD (chFs x y z) = { noneD with n0 := x, n2 := y, n3 := z } := by
  unfold ccD chFs
  rw [show allS [(ccN, joinS (chEl x y z))] ccN = [joinS (chEl x y z)] by unfold allS; simp [isN_same]]
  rw [dir_join]
  · unfold chEl
    simp only [List.foldl_cons, List.foldl_nil]
    rw [step_n0 _ hx.1 hx.2, step_n2 _ hy.1 hy.2, step_n3 _ hz.1 hz.2]
    simp only [noneD, lst_none hx.1, lst_none hy.1, lst_none hz.1]
  · intro v hv
    unfold chEl at hv
    simp only [List.mem_cons, List.not_mem_nil, or_false] at hv
    rcases hv with h | h | h <;> subst h
    · exact pl_V _ (by decide) (fun _ => by decide) hx.1
    · exact pl_V _ (by decide) (fun _ => by decide) hy.1
    · exact pl_V _ (by decide) (fun _ => by decide) hz.1
end Go.Proofs.YtocniclkooiggaaDoor

namespace Go.Proofs.YtocniclkooiggaaDoor
open Go.RowKit

theorem flat_len {α : Type} {f : α → List Value} {k : Nat} (hk : ∀ a, (f a).length = k) : ∀ l : List α, (l.flatMap f).length = l.length * k
  | [] => by simp
  | x :: l => by rw [List.flatMap_cons, List.length_append, hk, flat_len hk l, List.length_cons, Nat.add_mul]; omega
theorem flat_at {α : Type} {f : α → List Value} {k : Nat} (hk : ∀ a, (f a).length = k) : ∀ (l : List α) (i : Nat) (h : i < l.length) (j : Nat), j < k → (l.flatMap f)[i * k + j]? = (f l[i])[j]?
  | x :: l, 0, _, j, hj => by
    rw [List.flatMap_cons, Nat.zero_mul, Nat.zero_add, List.getElem?_append_left (by rw [hk]; exact hj)]; rfl
  | x :: l, i + 1, h, j, hj => by
    rw [List.flatMap_cons, List.getElem?_append_right (by rw [hk, Nat.add_mul]; omega), hk, show (i + 1) * k + j - k = i * k + j by rw [Nat.add_mul]; omega, flat_at hk l i (by simpa using h) j hj]
    rfl
/-- The element's cells. -/
theorem Rd.atM {α : Type} {f : α → List Value} {k : Nat} (hk : ∀ a, (f a).length = k) {w : World} {A : Option Addr} {n : Nat} {l : List α} (h : Rd w k A n (l.flatMap f)) {i : Nat} (hi : i < l.length) (h0 : 0 < k) :
    ∃ b o, A = some ⟨b, o, none⟩ ∧ ∀ j u, j < k → (f l[i])[j]? = some u → w.cell? ⟨b, o + (i * k + j), none⟩ = some u := by
  obtain ⟨b, o, e, hc⟩ := h.2 (by rw [flat_len hk]; exact Nat.mul_pos (by omega) h0)
  exact ⟨b, o, e, fun j u hj hu => hc _ _ (by rw [flat_at hk l i hi j hj]; exact hu)⟩
theorem Rd.lenM {α : Type} {f : α → List Value} {k : Nat} (hk : ∀ a, (f a).length = k) {w : World} {A : Option Addr} {n : Nat} {l : List α} (h : Rd w k A n (l.flatMap f)) (h0 : 0 < k) : l.length = n := by
  have := h.1
  rw [flat_len hk] at this
  exact Nat.eq_of_mul_eq_mul_right h0 this
/-- A flag's cells; a time's. -/
def flC (p : Bool × List UInt8) : List Value := [.bool p.1, .string ⟨p.2.toArray⟩]
def tmC (p : Int × List UInt8) : List Value := [.int .i64 p.1, .string ⟨p.2.toArray⟩]
theorem flC_len (p : Bool × List UInt8) : (flC p).length = 2 := rfl
theorem tmC_len (p : Int × List UInt8) : (tmC p).length = 2 := rfl
theorem Rd.atFl {w : World} {A : Option Addr} {n : Nat} {l : List (Bool × List UInt8)} (h : Rd w 2 A n (l.flatMap flC)) {i : Nat} (hi : i < l.length) :
    ∃ b o, A = some ⟨b, o, none⟩ ∧ w.cell? ⟨b, o + i * 2, none⟩ = some (.bool l[i].1) ∧ w.cell? ⟨b, o + i * 2 + 1, none⟩ = some (.string ⟨l[i].2.toArray⟩) := by
  obtain ⟨b, o, e, hc⟩ := Rd.atM flC_len h hi (by decide)
  exact ⟨b, o, e, hc 0 _ (by decide) rfl, by rw [Nat.add_assoc]; exact hc 1 _ (by decide) rfl⟩
theorem Rd.atTm {w : World} {A : Option Addr} {n : Nat} {l : List (Int × List UInt8)} (h : Rd w 2 A n (l.flatMap tmC)) {i : Nat} (hi : i < l.length) :
    ∃ b o, A = some ⟨b, o, none⟩ ∧ w.cell? ⟨b, o + i * 2, none⟩ = some (.int .i64 l[i].1) ∧ w.cell? ⟨b, o + i * 2 + 1, none⟩ = some (.string ⟨l[i].2.toArray⟩) := by
  obtain ⟨b, o, e, hc⟩ := Rd.atM tmC_len h hi (by decide)
  exact ⟨b, o, e, hc 0 _ (by decide) rfl, by rw [Nat.add_assoc]; exact hc 1 _ (by decide) rfl⟩
/-- A whole block, read as a slice. -/
theorem Rd.of_blk {w : World} {b : Nat} {t : TypeId} {cs : Array Value} (h : Blk w b t cs) (k n : Nat) (hs : cs.size = n * k) : Rd w k (some ⟨b, 0, none⟩) n cs.toList :=
  ⟨by simp [hs], fun _ => ⟨b, 0, rfl, fun j u hu => by rw [Nat.zero_add, h.cell j, ← Array.getElem?_toList]; exact hu⟩⟩

/-- A cache of a chain. -/
structure Ca where
  off : Int
  dr : Int
  ask : Int
  cm : Int
  st : Int
def Ca.ok (c : Ca) : Prop := 0 ≤ c.off ∧ c.off ≤ 65535 ∧ 0 ≤ c.ask ∧ c.ask ≤ 65535 ∧ 0 ≤ c.cm ∧ c.cm ≤ 65535 ∧ 0 ≤ c.st ∧ c.st ≤ 65535 ∧ -128 ≤ c.dr ∧ c.dr ≤ 127
def caC (c : Ca) : List Value := [.int .u16 c.off, .int .i8 c.dr, .int .u16 c.ask, .int .u16 c.cm, .int .u16 c.st]
theorem caC_len (c : Ca) : (caC c).length = 5 := rfl
/-- The clock's rate, in parts of a thousand. -/
def clkN (dr : Int) : Int := 1000 + max (-20) (min dr 20)
theorem clkN_bd (dr : Int) : 980 ≤ clkN dr ∧ clkN dr ≤ 1020 := by unfold clkN; omega
def rdC (c : Ca) (t : Int) : Int := rdS c.off (clkN c.dr) 1000 t
/-- What holds behind k rounds: the time, when the answer was made, and the stated age. -/
def ChP (k : Nat) (T M G : Int) : Prop :=
  k ≤ 6 ∧ 0 ≤ T ∧ T ≤ 196605 * (k : Int) ∧ -1 ≤ G ∧ exA G ≤ 2500000 * (k : Int) ∧ 0 ≤ M ∧ M ≤ 65535 ∧ (k = 0 → G = -1 ∧ T = 0) ∧ (1 ≤ k → T - M ≤ exA G)
/-- What a cache has stored. -/
def ChS (c : Ca) (T M sp a b : Int) : Prop :=
  ∃ sent t2, 0 ≤ sent ∧ sent ≤ t2 ∧ t2 ≤ T ∧ sent - M ≤ exA sp ∧ a = rdC c sent ∧ b = rdC c t2
theorem ch_start : ChP 0 0 0 (-1) := by
  unfold ChP
  refine ⟨by omega, by omega, by omega, by omega, by rw [show exA (-1) = 0 by decide]; omega, by omega, by omega, fun _ => ⟨rfl, rfl⟩, fun h => by omega⟩
theorem ch_round {k : Nat} {T M G sent M' t1 : Int} {c : Ca} (h : ChP k T M G) (hk : k < 6) (hc : c.ok)
    (hh : (k = 0 ∧ sent = T ∧ M' = sent + c.ask ∧ t1 = M') ∨ (1 ≤ k ∧ sent = max 0 (T - c.ask) ∧ M' = M ∧ t1 = T)) :
    ∃ lo hi, atO ⟨rdC c sent, rdC c (t1 + c.cm), G⟩ (rdC c (t1 + c.cm + c.st)) 20000 = some (lo, hi) ∧ 0 ≤ hi ∧ hi ≤ 100000000 ∧ ChP (k + 1) (t1 + c.cm + c.st) M' (hi / 1000) ∧
      ChS c (t1 + c.cm + c.st) M' G (rdC c sent) (rdC c (t1 + c.cm)) ∧ 0 ≤ sent ∧ sent ≤ 1200000 ∧ 0 ≤ t1 ∧ t1 ≤ 1200000 := by
  obtain ⟨h0, h1, h2, h3, h4, h5, h6, h7, h8⟩ := h
  obtain ⟨c0, c1, c2, c3, c4, c5, c6, c7, _, _⟩ := hc
  have hb : 0 ≤ sent ∧ sent ≤ t1 ∧ t1 ≤ 196605 * (k : Int) + 65535 ∧ sent - M' ≤ exA G ∧ 0 ≤ M' ∧ M' ≤ 65535 := by
    have hx := exA_bd G
    rcases hh with ⟨k0, e1, e2, e3⟩ | ⟨k1, e1, e2, e3⟩
    · obtain ⟨g1, g2⟩ := h7 k0
      omega
    · have := h8 k1
      omega
  obtain ⟨b0, b1, b2, b3, b4, b5⟩ := hb
  obtain ⟨lo, hi, e, e1, e2, e3, e4⟩ := chain_at (off := c.off) (num := clkN c.dr) (sent := sent) (t2 := t1 + c.cm) (T := t1 + c.cm + c.st) (made := M') (sp := G) ⟨c0, c1⟩ (clkN_bd _) b0 (by omega) (by omega) (by omega) b3
  have hkk : (k : Int) ≤ 5 := by omega
  have hhi : hi + 1000 ≤ 2500000 * ((k : Int) + 1) := by omega
  obtain ⟨f1, f2, f3⟩ := chain_next e1 e4 (by omega)
  refine ⟨lo, hi, e, e4, by omega, ⟨by omega, by omega, by rw [show ((k + 1 : Nat) : Int) = (k : Int) + 1 by omega]; omega, by omega, by rw [show ((k + 1 : Nat) : Int) = (k : Int) + 1 by omega]; omega, b4, b5, fun h => by omega, fun _ => f1⟩, ⟨sent, t1 + c.cm, b0, by omega, by omega, b3, rfl, rfl⟩, b0, by omega, by omega, by omega⟩
/-- At last: the upper bound covers the true age. -/
theorem ch_last {c : Ca} {T M sp a b T2 : Int} (h : ChS c T M sp a b) (hc : c.ok) (h1 : T ≤ T2) (h2 : T2 ≤ 2000000) :
    ∃ lo hi, atO ⟨a, b, sp⟩ (rdC c T2) 20000 = some (lo, hi) ∧ T2 - M ≤ hi ∧ lo ≤ hi := by
  obtain ⟨sent, t2, b0, b1, b2, b3, rfl, rfl⟩ := h
  obtain ⟨c0, c1, _⟩ := hc
  obtain ⟨lo, hi, e, e1, e2, _, _⟩ := chain_at (off := c.off) (num := clkN c.dr) (sent := sent) (t2 := t2) (T := T2) (made := M) (sp := sp) ⟨c0, c1⟩ (clkN_bd _) b0 b1 (by omega) h2 b3
  exact ⟨lo, hi, e, e1, e2⟩
end Go.Proofs.YtocniclkooiggaaDoor

namespace Go.Proofs.YtocniclkooiggaaDoor
open Go.RowKit

theorem ret_s {a b : ByteArray} (h : a = b) : Ending.returned (.string a) = .returned (.string b) := by rw [h]
theorem conv_any (a : Int) (b : Nat) (w : World) (h : w.cell? ⟨b, 0, none⟩ = some (.int .u8 a)) : (convert 82 9 (.slice (some ⟨b, 0, none⟩) 1 1)).run Tryd.prog w =
    .ok (.string ⟨#[UInt8.ofNat a.toNat]⟩) w :=
  run_convert_bytes_arg (P := Tryd.prog) _ 82 5 Tryd.underlying82 Tryd.underlying5 b 0 1 1 [a] rfl
    (fun i hi => by
      obtain rfl : i = 0 := by omega
      exact h) 9 Tryd.underlying9
theorem conv_1t (a : Int) (w : World) : (convert 82 9 (.slice (some ⟨w.heap.size, 0, none⟩) 1 1)).run Tryd.prog (w.alloc (.cells #[.int .u8 a] 5)) =
    .ok (.string ⟨#[UInt8.ofNat a.toNat]⟩) (w.alloc (.cells #[.int .u8 a] 5)) :=
  conv_any a _ _ (by rw [World.cell?_alloc_mark]; rfl)
theorem sum_w {P : Program} (a b : ByteArray) (h : a.size + b.size ≤ 10000) : ∀ w, (Op.stringOp .add a b).run P w = .ok (.string (a ++ b)) w :=
  fun w => run_string_add_sum w a b (by omega)
theorem dec_1 {n : Int} (h0 : 0 ≤ n) (h1 : n < 10) : decS n = ⟨#[UInt8.ofNat (48 + n).toNat]⟩ := by
  unfold decS mkS
  rw [dec_small (by omega), show (48 + n).toNat = 48 + n.toNat by omega]
theorem dec_2 {n : Int} (h0 : 10 ≤ n) : decS n = decS (n / 10) ++ ⟨#[UInt8.ofNat (48 + n % 10).toNat]⟩ := by
  apply bytes_ext
  rw [data_append]
  unfold decS mkS
  rw [dec_big (by omega), show (48 + n % 10).toNat = 48 + n.toNat % 10 by omega, show (n / 10).toNat = n.toNat / 10 by omega]
theorem dec_sz {n : Int} (h0 : 0 ≤ n) (h1 : n ≤ 2147483647) : (decS n).size ≤ 20 := by
  have h : (decS n).size = (Lib.decDigits n.toNat).length := by simp [decS, mkS, ByteArray.size]
  rw [h, Lib.decDigits_length]; exact Lib.nDigits_le20 _ (by omega)

set_option maxHeartbeats 2000000 in
theorem top_digit (n : Int) (w : World) (h0 : 0 ≤ n) (h1 : n < 10) : Calls Tryd.prog 10 #[.int .i64 n] w fun e w' => e = .returned (.string (decS n)) ∧ Ext w w' := by
  have hc := conv_1t (48 + n)
  have HV := Lib.hid (dec_1 h0 h1)
  go_enter Tryd.func10, Tryd.ntmps10
  go_wp2_with fail
  go_ret
  exact ⟨ret_s HV.out.symm, (Ext.refl w).alloc _⟩
set_option maxHeartbeats 4000000 in
set_option maxRecDepth 100000 in
theorem top_digits (n : Int) (w : World) (h0 : 0 ≤ n) (h1 : n < 30) : Calls Tryd.prog 10 #[.int .i64 n] w fun e w' => e = .returned (.string (decS n)) ∧ Ext w w' := by
  by_cases hn : n < 10
  · exact top_digit n w h0 hn
  · have q1 : n.tdiv 10 = n / 10 := Int.tdiv_eq_ediv_of_nonneg h0
    have q2 : n.tmod 10 = n % 10 := Int.tmod_eq_emod_of_nonneg h0
    have HD := Lib.hid (fun w => top_digit (n / 10) w (by omega) (by omega))
    have hw1 : IntKind.i64.wrap (n / 10) = n / 10 := IntWalk.i64_in _ (by omega)
    have hw2 : IntKind.i64.wrap (48 + n % 10) = 48 + n % 10 := IntWalk.i64_in _ (by omega)
    have hw3 : IntKind.u8.wrap (48 + n % 10) = 48 + n % 10 := IntWalk.u8_in _ (by omega)
    have HV := Lib.hid (dec_2 (n := n) (by omega))
    have hs1 := sum_w (P := Tryd.prog) (decS (n / 10)) ⟨#[UInt8.ofNat (48 + n % 10).toNat]⟩ (by have := dec_sz (n := n / 10) (by omega) (by omega); have h1 : (⟨#[UInt8.ofNat (48 + n % 10).toNat]⟩ : ByteArray).size = 1 := rfl; omega)
    go_enter Tryd.func10, Tryd.ntmps10
    go_wp2_with fail
    have hE := (Ext.refl w).drew
    refine wp_region_held_drew (S := (fun _ => True)) (by kernel_rfl) ?_ (fun hHeld => ?_)
    · (try dsimp only); (try trivial)
    refine wpAnyH_take (i := 0) (oi := { dst := some 10, op := _, type := _, pos := _, after := _, guard := _ }) (v := ?_) rfl (by kernel_rfl) (by kernel_rfl) (by kernel_rfl) (fun _ _ _ h => h) (Or.inl ⟨by rfl, ?_⟩) (by assumption) ?_
    rotate_left
    · (intro w hSw; (try dsimp only at hSw); go_simp; (try with_reducible rfl))
    (try simp only [Act.put, List.setIfInBounds_toArray, List.set_cons_zero, List.set_cons_succ])
    refine wpAnyH_take (i := 1) (oi := { dst := some 11, op := _, type := _, pos := _, after := _, guard := _ }) (v := ?_) rfl (by kernel_rfl) (by kernel_rfl) (by kernel_rfl) (fun _ _ _ h => h) (Or.inl ⟨by rfl, ?_⟩) (by assumption) ?_
    rotate_left
    · (intro w hSw; (try dsimp only at hSw); go_simp; (try with_reducible rfl))
    (try simp only [Act.put, List.setIfInBounds_toArray, List.set_cons_zero, List.set_cons_succ])
    refine wpAnyH_take (i := 3) (oi := { dst := some 13, op := _, type := _, pos := _, after := _, guard := _ }) (v := ?_) rfl (by kernel_rfl) (by kernel_rfl) (by kernel_rfl) (fun _ _ _ h => h) (Or.inl ⟨by rfl, ?_⟩) (by assumption) ?_
    rotate_left
    · (intro w hSw; (try dsimp only at hSw); go_simp; (try with_reducible rfl))
    (try simp only [Act.put, List.setIfInBounds_toArray, List.set_cons_zero, List.set_cons_succ])
    refine wpAnyH_take (i := 4) (oi := { dst := some 14, op := _, type := _, pos := _, after := _, guard := _ }) (v := ?_) rfl (by kernel_rfl) (by kernel_rfl) (by kernel_rfl) (fun _ _ _ h => h) (Or.inl ⟨by rfl, ?_⟩) (by assumption) ?_
    rotate_left
    · (intro w hSw; (try dsimp only at hSw); go_simp; (try with_reducible rfl))
    (try simp only [Act.put, List.setIfInBounds_toArray, List.set_cons_zero, List.set_cons_succ])
    refine wpAnyH_take (i := 5) (oi := { dst := some 15, op := _, type := _, pos := _, after := _, guard := _ }) (v := ?_) rfl (by kernel_rfl) (by kernel_rfl) (by kernel_rfl) (fun _ _ _ h => h) (Or.inl ⟨by rfl, ?_⟩) (by assumption) ?_
    rotate_left
    · (intro w hSw; (try dsimp only at hSw); go_simp; (try with_reducible rfl))
    (try simp only [Act.put, List.setIfInBounds_toArray, List.set_cons_zero, List.set_cons_succ])
    refine wpAnyH_take (i := 6) (oi := { dst := some 16, op := _, type := _, pos := _, after := _, guard := _ }) (v := ?_) rfl (by kernel_rfl) (by kernel_rfl) (by kernel_rfl) (fun _ _ _ h => h) (Or.inl ⟨by rfl, ?_⟩) (by assumption) ?_
    rotate_left
    · (intro w hSw; (try dsimp only at hSw); go_simp; (try with_reducible rfl))
    (try simp only [Act.put, List.setIfInBounds_toArray, List.set_cons_zero, List.set_cons_succ])
    refine wpAnyH_ready (rs := [2, 7]) (by kernel_rfl) (by simp) ?_
    refine AllReadyH.cons (o := { dst := some 12, op := _, type := _, pos := _, after := _, guard := _ }) rfl (fun K hK => ?_) (AllReadyH.cons (o := { dst := some 17, op := _, type := _, pos := _, after := _, guard := _ }) rfl (fun K hK => ?_) AllReadyH.nil)
    · go_simp
      refine (HD.out _).mono ?_; rintro e w1 ⟨rfl, hb1⟩; replace hE := hE.trans hb1; clear hb1
      try go_wp2_with fail
      refine hK.out _ _ ?_ (fun hHeld => ?_)
      · (try dsimp only); (try trivial)
      clear hK K
      (try simp only [Act.put, List.setIfInBounds_toArray, List.set_cons_zero, List.set_cons_succ])
      refine wpAnyH_ready (rs := [7]) (by kernel_rfl) (by simp) ?_
      refine AllReadyH.cons (o := { dst := some 17, op := _, type := _, pos := _, after := _, guard := _ }) rfl (fun K hK => ?_) AllReadyH.nil
      go_simp
      have hbl := blk_of_ext hE 5 #[.int .u8 (48 + n % 10)]; replace hE := hE.alloc (.cells #[.int .u8 (48 + n % 10)] 5)
      try go_wp2_with fail
      refine hK.out _ _ ?_ (fun hHeld => ?_)
      · (try dsimp only); (try trivial)
      clear hK K
      (try simp only [Act.put, List.setIfInBounds_toArray, List.set_cons_zero, List.set_cons_succ])
      refine wpAnyH_ready (rs := [8]) (by kernel_rfl) (by simp) ?_
      refine AllReadyH.cons (o := { dst := some 18, op := _, type := _, pos := _, after := _, guard := _ }) rfl (fun K hK => ?_) AllReadyH.nil
      have hcv := conv_any (48 + n % 10) _ _ (hbl.cell 0)
      go_simp
      skip
      try go_wp2_with fail
      refine hK.out _ _ ?_ (fun hHeld => ?_)
      · (try dsimp only); (try trivial)
      clear hK K
      (try simp only [Act.put, List.setIfInBounds_toArray, List.set_cons_zero, List.set_cons_succ])
      refine wpAnyH_take (i := 9) (oi := { dst := some 19, op := _, type := _, pos := _, after := _, guard := _ }) (v := ?_) rfl (by kernel_rfl) (by kernel_rfl) (by kernel_rfl) (fun _ _ _ h => h) (Or.inl ⟨by rfl, ?_⟩) (by assumption) ?_
      rotate_left
      · (intro w hSw; (try dsimp only at hSw); go_simp; (try with_reducible rfl))
      (try simp only [Act.put, List.setIfInBounds_toArray, List.set_cons_zero, List.set_cons_succ])
      refine wpAnyH_take (i := 10) (oi := { dst := some 2, op := _, type := _, pos := _, after := _, guard := _ }) (v := ?_) rfl (by kernel_rfl) (by kernel_rfl) (by kernel_rfl) (fun _ _ _ h => h) (Or.inl ⟨by rfl, ?_⟩) (by assumption) ?_
      rotate_left
      · (intro w hSw; (try dsimp only at hSw); go_simp; (try with_reducible rfl))
      (try simp only [Act.put, List.setIfInBounds_toArray, List.set_cons_zero, List.set_cons_succ])
      refine wpAnyH_done (by kernel_rfl) ?_ _
      go_wp2_with fail
      go_ret
      exact ⟨ret_s HV.out.symm, hE⟩
    · go_simp
      have hbl : Blk _ w.heap.size _ _ := blk_of_ext hE 5 #[.int .u8 (48 + n % 10)]; replace hE := hE.alloc (.cells #[.int .u8 (48 + n % 10)] 5)
      try go_wp2_with fail
      refine hK.out _ _ ?_ (fun hHeld => ?_)
      · (try dsimp only); (try trivial)
      clear hK K
      (try simp only [Act.put, List.setIfInBounds_toArray, List.set_cons_zero, List.set_cons_succ])
      refine wpAnyH_ready (rs := [2, 8]) (by kernel_rfl) (by simp) ?_
      refine AllReadyH.cons (o := { dst := some 12, op := _, type := _, pos := _, after := _, guard := _ }) rfl (fun K hK => ?_) (AllReadyH.cons (o := { dst := some 18, op := _, type := _, pos := _, after := _, guard := _ }) rfl (fun K hK => ?_) AllReadyH.nil)
      · go_simp
        refine (HD.out _).mono ?_; rintro e w1 ⟨rfl, hb1⟩; replace hE := hE.trans hb1; replace hbl := hbl.ext hb1; clear hb1
        try go_wp2_with fail
        refine hK.out _ _ ?_ (fun hHeld => ?_)
        · (try dsimp only); (try trivial)
        clear hK K
        (try simp only [Act.put, List.setIfInBounds_toArray, List.set_cons_zero, List.set_cons_succ])
        refine wpAnyH_ready (rs := [8]) (by kernel_rfl) (by simp) ?_
        refine AllReadyH.cons (o := { dst := some 18, op := _, type := _, pos := _, after := _, guard := _ }) rfl (fun K hK => ?_) AllReadyH.nil
        have hcv := conv_any (48 + n % 10) _ _ (hbl.cell 0)
        go_simp
        skip
        try go_wp2_with fail
        refine hK.out _ _ ?_ (fun hHeld => ?_)
        · (try dsimp only); (try trivial)
        clear hK K
        (try simp only [Act.put, List.setIfInBounds_toArray, List.set_cons_zero, List.set_cons_succ])
        refine wpAnyH_take (i := 9) (oi := { dst := some 19, op := _, type := _, pos := _, after := _, guard := _ }) (v := ?_) rfl (by kernel_rfl) (by kernel_rfl) (by kernel_rfl) (fun _ _ _ h => h) (Or.inl ⟨by rfl, ?_⟩) (by assumption) ?_
        rotate_left
        · (intro w hSw; (try dsimp only at hSw); go_simp; (try with_reducible rfl))
        (try simp only [Act.put, List.setIfInBounds_toArray, List.set_cons_zero, List.set_cons_succ])
        refine wpAnyH_take (i := 10) (oi := { dst := some 2, op := _, type := _, pos := _, after := _, guard := _ }) (v := ?_) rfl (by kernel_rfl) (by kernel_rfl) (by kernel_rfl) (fun _ _ _ h => h) (Or.inl ⟨by rfl, ?_⟩) (by assumption) ?_
        rotate_left
        · (intro w hSw; (try dsimp only at hSw); go_simp; (try with_reducible rfl))
        (try simp only [Act.put, List.setIfInBounds_toArray, List.set_cons_zero, List.set_cons_succ])
        refine wpAnyH_done (by kernel_rfl) ?_ _
        go_wp2_with fail
        go_ret
        exact ⟨ret_s HV.out.symm, hE⟩
      · have hcv := conv_any (48 + n % 10) w.heap.size (w.alloc (.cells #[.int .u8 (48 + n % 10)] 5)).drew (hbl.cell 0)
        go_simp
        skip
        try go_wp2_with fail
        refine hK.out _ _ ?_ (fun hHeld => ?_)
        · (try dsimp only); (try trivial)
        clear hK K
        (try simp only [Act.put, List.setIfInBounds_toArray, List.set_cons_zero, List.set_cons_succ])
        refine wpAnyH_ready (rs := [2]) (by kernel_rfl) (by simp) ?_
        refine AllReadyH.cons (o := { dst := some 12, op := _, type := _, pos := _, after := _, guard := _ }) rfl (fun K hK => ?_) AllReadyH.nil
        go_simp
        refine (HD.out _).mono ?_; rintro e w1 ⟨rfl, hb1⟩; replace hE := hE.trans hb1; replace hbl := hbl.ext hb1; clear hb1
        try go_wp2_with fail
        refine hK.out _ _ ?_ (fun hHeld => ?_)
        · (try dsimp only); (try trivial)
        clear hK K
        (try simp only [Act.put, List.setIfInBounds_toArray, List.set_cons_zero, List.set_cons_succ])
        refine wpAnyH_take (i := 9) (oi := { dst := some 19, op := _, type := _, pos := _, after := _, guard := _ }) (v := ?_) rfl (by kernel_rfl) (by kernel_rfl) (by kernel_rfl) (fun _ _ _ h => h) (Or.inl ⟨by rfl, ?_⟩) (by assumption) ?_
        rotate_left
        · (intro w hSw; (try dsimp only at hSw); go_simp; (try with_reducible rfl))
        (try simp only [Act.put, List.setIfInBounds_toArray, List.set_cons_zero, List.set_cons_succ])
        refine wpAnyH_take (i := 10) (oi := { dst := some 2, op := _, type := _, pos := _, after := _, guard := _ }) (v := ?_) rfl (by kernel_rfl) (by kernel_rfl) (by kernel_rfl) (fun _ _ _ h => h) (Or.inl ⟨by rfl, ?_⟩) (by assumption) ?_
        rotate_left
        · (intro w hSw; (try dsimp only at hSw); go_simp; (try with_reducible rfl))
        (try simp only [Act.put, List.setIfInBounds_toArray, List.set_cons_zero, List.set_cons_succ])
        refine wpAnyH_done (by kernel_rfl) ?_ _
        go_wp2_with fail
        go_ret
        exact ⟨ret_s HV.out.symm, hE⟩

theorem infoCk : (Tryd.prog.info? 39).map (·.size) = some 3 := by kernel_rfl
set_option maxHeartbeats 4000000 in
set_option maxRecDepth 100000 in
theorem top_clockOf (of dr ask cm st : Int) (w : World) (o0 : 0 ≤ of) (o1 : of ≤ 65535) (d0 : -128 ≤ dr) (d1 : dr ≤ 127) : Calls Tryd.prog 11 #[.agg #[.int .u16 of, .int .i8 dr, .int .u16 ask, .int .u16 cm, .int .u16 st]] w fun e w' => e = .returned (.agg #[.int .i64 of, .int .i64 (clkN dr), .int .i64 1000]) ∧ Ext w w' := by
  have HC := Lib.hid (base_Clip dr (-20) 20)
  have HBc := Lib.hid ((Blk.new w 37 #[.int .u16 of, .int .i8 dr, .int .u16 ask, .int .u16 cm, .int .u16 st]).alloc (.cells #[.int .i64 0, .int .i64 0, .int .i64 0] 39))
  have HBt := Lib.hid (show Blk ((w.alloc (.cells #[.int .u16 of, .int .i8 dr, .int .u16 ask, .int .u16 cm, .int .u16 st] 37)).alloc (.cells #[.int .i64 0, .int .i64 0, .int .i64 0] 39)) (w.heap.size + 1) 39 #[.int .i64 0, .int .i64 0, .int .i64 0] by
    have h := Blk.new (w.alloc (.cells #[.int .u16 of, .int .i8 dr, .int .u16 ask, .int .u16 cm, .int .u16 st] 37)) 39 #[.int .i64 0, .int .i64 0, .int .i64 0]
    rw [World.size_alloc] at h; exact h)
  have HE := Lib.hid (((Ext.refl w).alloc (.cells #[.int .u16 of, .int .i8 dr, .int .u16 ask, .int .u16 cm, .int .u16 st] 37)).alloc (.cells #[.int .i64 0, .int .i64 0, .int .i64 0] 39))
  have hk : 1000 + max (-20) (min dr 20) = clkN dr := rfl
  have hk0 : -20 ≤ max (-20) (min dr 20) ∧ max (-20) (min dr 20) ≤ 20 := by omega
  obtain ⟨hk0, hk1⟩ := hk0
  generalize max (-20) (min dr 20) = mm at *
  have Hk := Lib.hid hk; clear hk
  have hwk : IntKind.i64.wrap (1000 + mm) = 1000 + mm := IntWalk.i64_in _ (by omega)
  have hwo : IntKind.i64.wrap of = of := IntWalk.i64_in _ (by omega)
  have hwd : IntKind.i64.wrap dr = dr := IntWalk.i64_in _ (by omega)
  go_enter Tryd.func11, Tryd.ntmps11
  go_wp2_with fail
  generalize (w.alloc (.cells #[.int .u16 of, .int .i8 dr, .int .u16 ask, .int .u16 cm, .int .u16 st] 37)).alloc (.cells #[.int .i64 0, .int .i64 0, .int .i64 0] 39) = W0 at *
  generalize hbq : w.heap.size = b at *
  have hB2 := HBt.out.drew
  refine wp_region_held_drew (S := (fun w' => w'.cell? ⟨b, 0, none⟩ = some (.int .u16 of) ∧ w'.cell? ⟨b, 1, none⟩ = some (.int .i8 dr))) (by kernel_rfl) ?_ (fun hHeld => ?_)
  · (try dsimp only); exact ⟨HBc.out.cell 0, HBc.out.cell 1⟩
  refine wpAnyH_take (i := 0) (oi := { dst := some 3, op := _, type := _, pos := _, after := _, guard := _ }) (v := ?_) rfl (by kernel_rfl) (by kernel_rfl) (by kernel_rfl) (fun _ _ _ h => h) (Or.inl ⟨by rfl, ?_⟩) (by assumption) ?_
  rotate_left
  · (intro w hSw; (try dsimp only at hSw); go_simp; (try with_reducible rfl))
  (try simp only [Act.put, List.setIfInBounds_toArray, List.set_cons_zero, List.set_cons_succ])
  refine wpAnyH_take (i := 1) (oi := { dst := some 4, op := _, type := _, pos := _, after := _, guard := _ }) (v := ?_) rfl (by kernel_rfl) (by kernel_rfl) (by kernel_rfl) (fun _ _ _ h => h) (Or.inl ⟨by rfl, ?_⟩) (by assumption) ?_
  rotate_left
  · (intro w hSw; (try dsimp only at hSw); go_simp; (try with_reducible rfl))
  (try simp only [Act.put, List.setIfInBounds_toArray, List.set_cons_zero, List.set_cons_succ])
  refine wpAnyH_take (i := 2) (oi := { dst := some 5, op := _, type := _, pos := _, after := _, guard := _ }) (v := ?_) rfl (by kernel_rfl) (by kernel_rfl) (by kernel_rfl) (fun _ _ _ h => h) (Or.inl ⟨by rfl, ?_⟩) (by assumption) ?_
  rotate_left
  · (intro w hSw; (try dsimp only at hSw); go_simp; (try with_reducible rfl))
  (try simp only [Act.put, List.setIfInBounds_toArray, List.set_cons_zero, List.set_cons_succ])
  refine wpAnyH_take (i := 3) (oi := { dst := some 6, op := _, type := _, pos := _, after := _, guard := _ }) (v := ?_) rfl (by kernel_rfl) (by kernel_rfl) (by kernel_rfl) (fun _ _ _ h => h) (Or.inl ⟨by rfl, ?_⟩) (by assumption) ?_
  rotate_left
  · (intro w hSw; (try dsimp only at hSw); go_simp; (try with_reducible rfl))
  (try simp only [Act.put, List.setIfInBounds_toArray, List.set_cons_zero, List.set_cons_succ])
  refine wpAnyH_take (i := 4) (oi := { dst := some 7, op := _, type := _, pos := _, after := _, guard := _ }) (v := ?_) rfl (by kernel_rfl) (by kernel_rfl) (by kernel_rfl) (fun _ _ _ h => h) (Or.inl ⟨by rfl, ?_⟩) (by assumption) ?_
  rotate_left
  · (intro w hSw; (try dsimp only at hSw); go_simp; (try with_reducible rfl))
  (try simp only [Act.put, List.setIfInBounds_toArray, List.set_cons_zero, List.set_cons_succ])
  refine wpAnyH_take (i := 5) (oi := { dst := some 8, op := _, type := _, pos := _, after := _, guard := _ }) (v := ?_) rfl (by kernel_rfl) (by kernel_rfl) (by kernel_rfl) (fun _ _ _ h => h) (Or.inl ⟨by rfl, ?_⟩) (by assumption) ?_
  rotate_left
  · (intro w hSw; (try dsimp only at hSw); go_simp; (try with_reducible rfl))
  (try simp only [Act.put, List.setIfInBounds_toArray, List.set_cons_zero, List.set_cons_succ])
  refine wpAnyH_ready (rs := [6]) (by kernel_rfl) (by simp) ?_
  refine AllReadyH.cons (o := { dst := some 9, op := _, type := _, pos := _, after := _, guard := _ }) rfl (fun K hK => ?_) AllReadyH.nil
  go_simp
  refine (HC.out _).mono ?_; rintro e w1 ⟨rfl, rfl⟩
  try go_wp2_with fail
  refine hK.out _ _ ?_ (fun hHeld => ?_)
  · (try dsimp only); exact ⟨HBc.out.cell 0, HBc.out.cell 1⟩
  clear hK K
  (try simp only [Act.put, List.setIfInBounds_toArray, List.set_cons_zero, List.set_cons_succ])
  refine wpAnyH_take (i := 7) (oi := { dst := some 10, op := _, type := _, pos := _, after := _, guard := _ }) (v := ?_) rfl (by kernel_rfl) (by kernel_rfl) (by kernel_rfl) (fun _ _ _ h => h) (Or.inl ⟨by rfl, ?_⟩) (by assumption) ?_
  rotate_left
  · (intro w hSw; (try dsimp only at hSw); go_simp; (try with_reducible rfl))
  (try simp only [Act.put, List.setIfInBounds_toArray, List.set_cons_zero, List.set_cons_succ])
  refine wpAnyH_take (i := 8) (oi := { dst := some 11, op := _, type := _, pos := _, after := _, guard := _ }) (v := ?_) rfl (by kernel_rfl) (by kernel_rfl) (by kernel_rfl) (fun _ _ _ h => h) (Or.inl ⟨by rfl, ?_⟩) (by assumption) ?_
  rotate_left
  · (intro w hSw; (try dsimp only at hSw); go_simp; (try with_reducible rfl))
  (try simp only [Act.put, List.setIfInBounds_toArray, List.set_cons_zero, List.set_cons_succ])
  refine wpAnyH_ready (rs := [9]) (by kernel_rfl) (by simp) ?_
  refine AllReadyH.cons (o := { dst := none, op := _, type := _, pos := _, after := _, guard := _ }) rfl (fun K hK => ?_) AllReadyH.nil
  refine step_storeB rfl 39 (.tmp 2) (.tmp 11) rfl rfl (b + 1) _ rfl rfl 39 _ hB2 infoCk rfl (by simp [Value.oneCell']) ?_; intro w5 hN5 hX5
  refine hK.out _ _ ?_ (fun hHeld => ?_)
  · (try dsimp only); exact ⟨(HBc.out.drew.grown hX5 (by simp)).cell 0, (HBc.out.drew.grown hX5 (by simp)).cell 1⟩
  clear hK K
  (try simp only [Act.put, List.setIfInBounds_toArray, List.set_cons_zero, List.set_cons_succ])
  refine wpAnyH_done (by kernel_rfl) ?_ _
  rw [Hk.out] at hN5
  go_wp2_with fail
  exact bodyPost_ret (v := .agg #[.int .i64 of, .int .i64 (clkN dr), .int .i64 1000]) (results_cell_row rfl _ _ (b + 1) 39 _ (0, 0) _ rfl hN5 Tryd.underlying39 rfl infoCk) rfl ⟨rfl, HE.out.drew.growB hX5 (by omega)⟩

def awT : List Fd := [(ccN, ⟨#[109, 97, 120, 45, 97, 103, 101, 61, 49]⟩)]
def awTs : Sd := ⟨200, awT, ⟨0, 0, -1⟩, false⟩
theorem awT_1 : jdS awTs noneD 999 0 = 1 := by decide +kernel
theorem awT_2 : jdS awTs noneD 1000 0 = 5 := by decide +kernel
theorem awT_sum : sumF awT = 22 := by decide +kernel
set_option maxHeartbeats 4000000 in
set_option maxRecDepth 100000 in
theorem top_awake (w : World) (hg : GlH w) (hgl : Gl w) : Calls Tryd.prog 9 #[] w fun e w' => e = .returned (.bool true) ∧ Ext w w' := by
  have hE0 := (Ext.refl w).alloc (.cells (fldCells awT).toArray 28)
  have hr : RdF (w.alloc (.cells (fldCells awT).toArray 28)) (some ⟨w.heap.size, 0, none⟩) 1 awT := Rd.lit w _ _ rfl 2 1 rfl
  have hJ := fun (now : Int) w' (h : Ext (w.alloc (.cells (fldCells awT).toArray 28)) w') => policy_Judge 200 (some ⟨w.heap.size, 0, none⟩) 1 1 awT 0 0 (-1) false noneD now 0 w' (hr.ext h) (by decide) ((bsz_of_sumF _).mono (by rw [awT_sum]; decide)) ((hg.ext hE0).ext h) (by rw [awT_sum]; decide) ((hgl.ext hE0).ext h)
  have HJ1 := Lib.hid (fun w' h => by have := hJ 999 w' h; rw [show (⟨200, awT, ⟨0, 0, -1⟩, false⟩ : Sd) = awTs from rfl, awT_1] at this; exact this)
  have HJ2 := Lib.hid (fun w' h => by have := hJ 1000 w' h; rw [show (⟨200, awT, ⟨0, 0, -1⟩, false⟩ : Sd) = awTs from rfl, awT_2] at this; exact this)
  have HE := Lib.hid hE0
  have HE1 := Lib.hid ((Ext.refl (w.alloc (.cells (fldCells awT).toArray 28))).alloc (.cells #[.int .i64 200, .slice (some ⟨w.heap.size, 0, none⟩) 1 1, .int .i64 0, .int .i64 0, .int .i64 (-1), .bool false] 34))
  have HBs := Lib.hid (show Blk ((w.alloc (.cells (fldCells awT).toArray 28)).alloc (.cells #[.int .i64 200, .slice (some ⟨w.heap.size, 0, none⟩) 1 1, .int .i64 0, .int .i64 0, .int .i64 (-1), .bool false] 34)) (w.heap.size + 1) 34 #[.int .i64 200, .slice (some ⟨w.heap.size, 0, none⟩) 1 1, .int .i64 0, .int .i64 0, .int .i64 (-1), .bool false] by
    have h := Blk.new (w.alloc (.cells (fldCells awT).toArray 28)) 34 #[.int .i64 200, .slice (some ⟨w.heap.size, 0, none⟩) 1 1, .int .i64 0, .int .i64 0, .int .i64 (-1), .bool false]
    rw [World.size_alloc] at h; exact h)
  clear hJ hr hE0
  go_enter Tryd.func9, Tryd.ntmps9
  go_wp2_with fail
  have hE := (Ext.refl ((w.alloc (.cells (fldCells awT).toArray 28)).alloc (.cells #[.int .i64 200, .slice (some ⟨w.heap.size, 0, none⟩) 1 1, .int .i64 0, .int .i64 0, .int .i64 (-1), .bool false] 34))).drew
  have HBs2 := Lib.hid (fun w' (h : Ext ((w.alloc (.cells (fldCells awT).toArray 28)).alloc (.cells #[.int .i64 200, .slice (some ⟨w.heap.size, 0, none⟩) 1 1, .int .i64 0, .int .i64 0, .int .i64 (-1), .bool false] 34)) w') => HBs.out.ext h)
  have HX := Lib.hid (HE.out.trans HE1.out)
  generalize w.heap.size = b at *
  refine wp_region_held_drew (S := (fun w' => Blk w' (b + 1) 34 #[.int .i64 200, .slice (some ⟨b, 0, none⟩) 1 1, .int .i64 0, .int .i64 0, .int .i64 (-1), .bool false])) (by kernel_rfl) ?_ (fun hHeld => ?_)
  · (try dsimp only); exact HBs2.out _ hE
  refine wpAnyH_take (i := 0) (oi := { dst := some 6, op := _, type := _, pos := _, after := _, guard := _ }) (v := .agg #[.int .i64 200, .slice (some ⟨b, 0, none⟩) 1 1, .int .i64 0, .int .i64 0, .int .i64 (-1), .bool false]) rfl (by kernel_rfl) (by kernel_rfl) (by kernel_rfl) (fun _ _ _ h => h) (yield_loadB rfl 34 (.tmp 1) rfl (b + 1) rfl 34 _ (fun w h => h) _ Tryd.underlying34 infoSt) (by assumption) ?_
  (try simp only [Act.put, List.setIfInBounds_toArray, List.set_cons_zero, List.set_cons_succ])
  refine wpAnyH_ready (rs := [1]) (by kernel_rfl) (by simp) ?_
  refine AllReadyH.cons (o := { dst := some 7, op := _, type := _, pos := _, after := _, guard := _ }) rfl (fun K hK => ?_) AllReadyH.nil
  go_simp
  refine (dir_None _).mono ?_; rintro e w1 ⟨rfl, hb1⟩; replace hE := hE.trans hb1; clear hb1
  try go_wp2_with fail
  refine hK.out _ _ ?_ (fun hHeld => ?_)
  · (try dsimp only); exact HBs2.out _ hE
  clear hK K
  (try simp only [Act.put, List.setIfInBounds_toArray, List.set_cons_zero, List.set_cons_succ])
  refine wpAnyH_ready (rs := [2]) (by kernel_rfl) (by simp) ?_
  refine AllReadyH.cons (o := { dst := some 8, op := _, type := _, pos := _, after := _, guard := _ }) rfl (fun K hK => ?_) AllReadyH.nil
  go_simp
  refine ((HJ1.out _ (HE1.out.trans hE)).mono ?_); rintro e w1 ⟨rfl, hb1⟩; replace hE := hE.trans hb1; clear hb1
  try go_wp2_with fail
  refine hK.out _ _ ?_ (fun hHeld => ?_)
  · (try dsimp only); exact HBs2.out _ hE
  clear hK K
  (try simp only [Act.put, List.setIfInBounds_toArray, List.set_cons_zero, List.set_cons_succ])
  refine wpAnyH_take (i := 3) (oi := { dst := some 9, op := _, type := _, pos := _, after := _, guard := _ }) (v := ?_) rfl (by kernel_rfl) (by kernel_rfl) (by kernel_rfl) (fun _ _ _ h => h) (Or.inl ⟨by rfl, ?_⟩) (by assumption) ?_
  rotate_left
  · (intro w hSw; (try dsimp only at hSw); go_simp; (try with_reducible rfl))
  (try simp only [Act.put, List.setIfInBounds_toArray, List.set_cons_zero, List.set_cons_succ])
  refine wpAnyH_take (i := 4) (oi := { dst := some 10, op := _, type := _, pos := _, after := _, guard := _ }) (v := ?_) rfl (by kernel_rfl) (by kernel_rfl) (by kernel_rfl) (fun _ _ _ h => h) (Or.inl ⟨by rfl, ?_⟩) (by assumption) ?_
  rotate_left
  · (intro w hSw; (try dsimp only at hSw); go_simp; (try with_reducible rfl))
  (try simp only [Act.put, List.setIfInBounds_toArray, List.set_cons_zero, List.set_cons_succ])
  refine wpAnyH_take (i := 5) (oi := { dst := some 11, op := _, type := _, pos := _, after := _, guard := _ }) (v := .agg #[.int .i64 200, .slice (some ⟨b, 0, none⟩) 1 1, .int .i64 0, .int .i64 0, .int .i64 (-1), .bool false]) rfl (by kernel_rfl) (by kernel_rfl) (by kernel_rfl) (fun _ _ _ h => h) (yield_loadG (by rfl) 34 (.tmp 1) rfl (b + 1) rfl 34 _ (fun w h => h) _ Tryd.underlying34 infoSt) (by assumption) ?_
  (try simp only [Act.put, List.setIfInBounds_toArray, List.set_cons_zero, List.set_cons_succ])
  refine wpAnyH_ready (rs := [6]) (by kernel_rfl) (by simp) ?_
  refine AllReadyH.cons (o := { dst := some 12, op := _, type := _, pos := _, after := _, guard := _ }) rfl (fun K hK => ?_) AllReadyH.nil
  go_simp
  refine (dir_None _).mono ?_; rintro e w1 ⟨rfl, hb1⟩; replace hE := hE.trans hb1; clear hb1
  try go_wp2_with fail
  refine hK.out _ _ ?_ (fun hHeld => ?_)
  · (try dsimp only); exact HBs2.out _ hE
  clear hK K
  (try simp only [Act.put, List.setIfInBounds_toArray, List.set_cons_zero, List.set_cons_succ])
  refine wpAnyH_ready (rs := [7]) (by kernel_rfl) (by simp) ?_
  refine AllReadyH.cons (o := { dst := some 13, op := _, type := _, pos := _, after := _, guard := _ }) rfl (fun K hK => ?_) AllReadyH.nil
  go_simp
  refine ((HJ2.out _ (HE1.out.trans hE)).mono ?_); rintro e w1 ⟨rfl, hb1⟩; replace hE := hE.trans hb1; clear hb1
  try go_wp2_with fail
  refine hK.out _ _ ?_ (fun hHeld => ?_)
  · (try dsimp only); exact HBs2.out _ hE
  clear hK K
  (try simp only [Act.put, List.setIfInBounds_toArray, List.set_cons_zero, List.set_cons_succ])
  refine wpAnyH_take (i := 8) (oi := { dst := some 14, op := _, type := _, pos := _, after := _, guard := _ }) (v := ?_) rfl (by kernel_rfl) (by kernel_rfl) (by kernel_rfl) (fun _ _ _ h => h) (Or.inl ⟨by rfl, ?_⟩) (by assumption) ?_
  rotate_left
  · (intro w hSw; (try dsimp only at hSw); go_simp; (try with_reducible rfl))
  (try simp only [Act.put, List.setIfInBounds_toArray, List.set_cons_zero, List.set_cons_succ])
  refine wpAnyH_take (i := 9) (oi := { dst := some 15, op := _, type := _, pos := _, after := _, guard := _ }) (v := ?_) rfl (by kernel_rfl) (by kernel_rfl) (by kernel_rfl) (fun _ _ _ h => h) (Or.inl ⟨by rfl, ?_⟩) (by assumption) ?_
  rotate_left
  · (intro w hSw; (try dsimp only at hSw); go_simp; (try with_reducible rfl))
  (try simp only [Act.put, List.setIfInBounds_toArray, List.set_cons_zero, List.set_cons_succ])
  refine wpAnyH_take (i := 10) (oi := { dst := some 0, op := _, type := _, pos := _, after := _, guard := _ }) (v := ?_) rfl (by kernel_rfl) (by kernel_rfl) (by kernel_rfl) (fun _ _ _ h => h) (Or.inl ⟨by rfl, ?_⟩) (by assumption) ?_
  rotate_left
  · (intro w hSw; (try dsimp only at hSw); go_simp; (try with_reducible rfl))
  (try simp only [Act.put, List.setIfInBounds_toArray, List.set_cons_zero, List.set_cons_succ])
  refine wpAnyH_done (by kernel_rfl) ?_ _
  go_wp2_with fail
  go_ret
  exact ⟨rfl, HX.out.trans hE⟩
end Go.Proofs.YtocniclkooiggaaDoor

namespace Go.Proofs.YtocniclkooiggaaDoor
open Go.RowKit

theorem chw_text (X Y Z : Int) : (((((⟨#[109, 97, 120, 45, 97, 103, 101, 61]⟩ : ByteArray) ++ decS X) ++ ⟨#[44, 32, 115, 116, 97, 108, 101, 45, 119, 104, 105, 108, 101, 45, 114, 101, 118, 97, 108, 105, 100, 97, 116, 101, 61]⟩) ++ decS Y) ++ ⟨#[44, 32, 115, 116, 97, 108, 101, 45, 105, 102, 45, 101, 114, 114, 111, 114, 61]⟩) ++ decS Z = joinS (chEl X Y Z) := by
  apply bytes_ext
  unfold chEl
  rw [join_list]
  simp only [data_append, tailL, elV, List.flatMap_cons, List.flatMap_nil, List.append_nil, mkS]
  simp [wMA, wWR, wIE]
theorem sumF_pairT (a v : ByteArray) : sumF [(a, v)] = a.size + v.size := by simp [sumF]
theorem rdf_new {a w : World} (_ : Ext a w) (l : List Fd) (t : TypeId) {cs : Array Value} {n : Nat} (hn : n = l.length) (h : cs = (fldCells l).toArray) : RdF (w.alloc (.cells cs t)) (some ⟨w.heap.size, 0, none⟩) n l := by
  subst h; subst hn
  exact Rd.lit w _ t rfl 2 l.length (by simp [fldCells_len])

set_option maxHeartbeats 16000000 in
set_option maxRecDepth 100000 in
theorem fresh_walk (A : Option Addr) (n c : Nat) (cl : List Ca) (x y z wt : Int) (w : World) (hr : Rd w 5 A n (cl.flatMap caC)) (hok : ∀ c ∈ cl, c.ok) (x0 : 0 ≤ x) (x1 : x ≤ 255) (y0 : 0 ≤ y) (y1 : y ≤ 255) (z0 : 0 ≤ z) (z1 : z ≤ 255) (wt0 : 0 ≤ wt) (wt1 : wt ≤ 65535) (hg : GlH w) (hgl : Gl w) :
    Calls Tryd.prog 3 #[.slice A n c, .agg #[.int .u8 x, .int .u8 y, .int .u8 z], .int .u16 wt] w fun e w' => e = .returned (.bool true) ∧ Ext w w' := by
  have HB := Lib.hid (Blk.new w 23 #[.int .u8 x, .int .u8 y, .int .u8 z])
  have HE := Lib.hid ((Ext.refl w).alloc (.cells #[.int .u8 x, .int .u8 y, .int .u8 z] 23))
  have Hl := Lib.hid (show cl.length = n from Rd.lenM caC_len hr (by decide))
  by_cases hn6 : n ≤ 6
  rotate_left
  · have hn7 : ¬ (n : Int) ≤ 6 := by omega
    have hn8 : (6 : Int) < n := by omega
    go_enter Tryd.func3, Tryd.ntmps3
    go_wp2_with fail
    refine (top_awake _ (hg.ext HE.out) (hgl.ext HE.out)).mono ?_; rintro e w2 ⟨rfl, hb2⟩
    go_wp2_with fail
    go_ret
    exact ⟨rfl, HE.out.trans hb2⟩
  by_cases hn0 : n = 0
  · subst hn0
    go_enter Tryd.func3, Tryd.ntmps3
    go_wp2_with fail
    refine (top_awake _ (hg.ext HE.out) (hgl.ext HE.out)).mono ?_; rintro e w2 ⟨rfl, hb2⟩
    go_wp2_with fail
    go_ret
    exact ⟨rfl, HE.out.trans hb2⟩
  have hn7 : ¬ (6 : Int) < n := by omega
  have hn9 : ((n : Int) == 0) = false := by rw [beq_eq_false_iff_ne]; omega
  have m0 : 0 ≤ x % 30 ∧ x % 30 < 30 := by omega
  have m1 : 0 ≤ y % 30 ∧ y % 30 < 30 := by omega
  have m2 : 0 ≤ z % 30 ∧ z % 30 < 30 := by omega
  have q0 : x.tmod 30 = x % 30 := Int.tmod_eq_emod_of_nonneg x0
  have q1 : y.tmod 30 = y % 30 := Int.tmod_eq_emod_of_nonneg y0
  have q2 : z.tmod 30 = z % 30 := Int.tmod_eq_emod_of_nonneg z0
  have wx1 : IntKind.i64.wrap x = x := IntWalk.i64_in _ (by omega)
  have wy1 : IntKind.i64.wrap y = y := IntWalk.i64_in _ (by omega)
  have wz1 : IntKind.i64.wrap z = z := IntWalk.i64_in _ (by omega)
  have wx2 : IntKind.i64.wrap (x % 30) = x % 30 := IntWalk.i64_in _ (by omega)
  have wy2 : IntKind.i64.wrap (y % 30) = y % 30 := IntWalk.i64_in _ (by omega)
  have wz2 : IntKind.i64.wrap (z % 30) = z % 30 := IntWalk.i64_in _ (by omega)
  have HDX := Lib.hid (fun w => top_digits (x % 30) w m0.1 m0.2)
  have HDY := Lib.hid (fun w => top_digits (y % 30) w m1.1 m1.2)
  have HDZ := Lib.hid (fun w => top_digits (z % 30) w m2.1 m2.2)
  have dX := dec_sz m0.1 (by omega)
  have dY := dec_sz m1.1 (by omega)
  have dZ := dec_sz m2.1 (by omega)
  have HBX := Lib.hid (⟨m0, m1, m2⟩ : _ ∧ _ ∧ _)
  clear m0 m1 m2
  go_enter Tryd.func3, Tryd.ntmps3
  go_wp2_with fail
  refine (top_awake _ (hg.ext HE.out) (hgl.ext HE.out)).mono ?_; rintro e w2 ⟨rfl, hb2⟩
  have HW2 := Lib.hid hb2
  clear hb2
  generalize w.alloc (.cells #[.int .u8 x, .int .u8 y, .int .u8 z] 23) = W0 at *
  generalize hbq : w.heap.size = b at *
  generalize hX : x % 30 = X at *
  generalize hY : y % 30 = Y at *
  generalize hZ : z % 30 = Z at *
  clear hX hY hZ
  have sz1 : (⟨#[109, 97, 120, 45, 97, 103, 101, 61]⟩ : ByteArray).size = 8 := rfl
  have sz2 : (⟨#[44, 32, 115, 116, 97, 108, 101, 45, 119, 104, 105, 108, 101, 45, 114, 101, 118, 97, 108, 105, 100, 97, 116, 101, 61]⟩ : ByteArray).size = 25 := rfl
  have sz3 : (⟨#[44, 32, 115, 116, 97, 108, 101, 45, 105, 102, 45, 101, 114, 114, 111, 114, 61]⟩ : ByteArray).size = 17 := rfl
  have s1 := sum_w (P := Tryd.prog) ⟨#[109, 97, 120, 45, 97, 103, 101, 61]⟩ (decS X) (by omega)
  have t1 : ((⟨#[109, 97, 120, 45, 97, 103, 101, 61]⟩ : ByteArray) ++ decS X).size = 8 + (decS X).size := by rw [ByteArray.size_append, sz1]
  have s2 := sum_w (P := Tryd.prog) ((⟨#[109, 97, 120, 45, 97, 103, 101, 61]⟩ : ByteArray) ++ decS X) ⟨#[44, 32, 115, 116, 97, 108, 101, 45, 119, 104, 105, 108, 101, 45, 114, 101, 118, 97, 108, 105, 100, 97, 116, 101, 61]⟩ (by omega)
  have t2 : (((⟨#[109, 97, 120, 45, 97, 103, 101, 61]⟩ : ByteArray) ++ decS X) ++ ⟨#[44, 32, 115, 116, 97, 108, 101, 45, 119, 104, 105, 108, 101, 45, 114, 101, 118, 97, 108, 105, 100, 97, 116, 101, 61]⟩).size = 8 + (decS X).size + 25 := by rw [ByteArray.size_append, t1, sz2]
  have s3 := sum_w (P := Tryd.prog) (((⟨#[109, 97, 120, 45, 97, 103, 101, 61]⟩ : ByteArray) ++ decS X) ++ ⟨#[44, 32, 115, 116, 97, 108, 101, 45, 119, 104, 105, 108, 101, 45, 114, 101, 118, 97, 108, 105, 100, 97, 116, 101, 61]⟩) (decS Y) (by omega)
  have t3 : ((((⟨#[109, 97, 120, 45, 97, 103, 101, 61]⟩ : ByteArray) ++ decS X) ++ ⟨#[44, 32, 115, 116, 97, 108, 101, 45, 119, 104, 105, 108, 101, 45, 114, 101, 118, 97, 108, 105, 100, 97, 116, 101, 61]⟩) ++ decS Y).size = 8 + (decS X).size + 25 + (decS Y).size := by rw [ByteArray.size_append, t2]
  have s4 := sum_w (P := Tryd.prog) ((((⟨#[109, 97, 120, 45, 97, 103, 101, 61]⟩ : ByteArray) ++ decS X) ++ ⟨#[44, 32, 115, 116, 97, 108, 101, 45, 119, 104, 105, 108, 101, 45, 114, 101, 118, 97, 108, 105, 100, 97, 116, 101, 61]⟩) ++ decS Y) ⟨#[44, 32, 115, 116, 97, 108, 101, 45, 105, 102, 45, 101, 114, 114, 111, 114, 61]⟩ (by omega)
  have t4 : (((((⟨#[109, 97, 120, 45, 97, 103, 101, 61]⟩ : ByteArray) ++ decS X) ++ ⟨#[44, 32, 115, 116, 97, 108, 101, 45, 119, 104, 105, 108, 101, 45, 114, 101, 118, 97, 108, 105, 100, 97, 116, 101, 61]⟩) ++ decS Y) ++ ⟨#[44, 32, 115, 116, 97, 108, 101, 45, 105, 102, 45, 101, 114, 114, 111, 114, 61]⟩).size = 8 + (decS X).size + 25 + (decS Y).size + 17 := by rw [ByteArray.size_append, t3, sz3]
  have s5 := sum_w (P := Tryd.prog) (((((⟨#[109, 97, 120, 45, 97, 103, 101, 61]⟩ : ByteArray) ++ decS X) ++ ⟨#[44, 32, 115, 116, 97, 108, 101, 45, 119, 104, 105, 108, 101, 45, 114, 101, 118, 97, 108, 105, 100, 97, 116, 101, 61]⟩) ++ decS Y) ++ ⟨#[44, 32, 115, 116, 97, 108, 101, 45, 105, 102, 45, 101, 114, 114, 111, 114, 61]⟩) (decS Z) (by omega)
  have HT := Lib.hid (show (#[.string ⟨#[99, 97, 99, 104, 101, 45, 99, 111, 110, 116, 114, 111, 108]⟩, .string ((((((⟨#[109, 97, 120, 45, 97, 103, 101, 61]⟩ : ByteArray) ++ decS X) ++ ⟨#[44, 32, 115, 116, 97, 108, 101, 45, 119, 104, 105, 108, 101, 45, 114, 101, 118, 97, 108, 105, 100, 97, 116, 101, 61]⟩) ++ decS Y) ++ ⟨#[44, 32, 115, 116, 97, 108, 101, 45, 105, 102, 45, 101, 114, 114, 111, 114, 61]⟩) ++ decS Z)] : Array Value) = (fldCells (chFs X Y Z)).toArray by rw [chw_text]; rfl)
  have HSz := Lib.hid (show sumF (chFs X Y Z) ≤ 200 by
    have h : (joinS (chEl X Y Z)).size ≤ 150 := by rw [← chw_text, ByteArray.size_append, t4]; omega
    have h2 : sumF (chFs X Y Z) = 13 + (joinS (chEl X Y Z)).size := by unfold chFs; rw [sumF_pairT]; rfl
    omega)
  clear sz1 sz2 sz3 t1 t2 t3 t4 dX dY dZ
  go_wp2_with fail
  have hE := HW2.out.drew
  refine wp_region_held_drew (S := (fun w' => w'.cell? ⟨b, 0, none⟩ = some (.int .u8 x) ∧ w'.cell? ⟨b, 1, none⟩ = some (.int .u8 y) ∧ w'.cell? ⟨b, 2, none⟩ = some (.int .u8 z))) (by kernel_rfl) ?_ (fun hHeld => ?_)
  · (try dsimp only); exact ⟨(HB.out.ext hE).cell 0, (HB.out.ext hE).cell 1, (HB.out.ext hE).cell 2⟩
  refine wpAnyH_take (i := 0) (oi := { dst := some 41, op := _, type := _, pos := _, after := _, guard := _ }) (v := ?_) rfl (by kernel_rfl) (by kernel_rfl) (by kernel_rfl) (fun _ _ _ h => h) (Or.inl ⟨by rfl, ?_⟩) (by assumption) ?_
  rotate_left
  · (intro w hSw; (try dsimp only at hSw); go_simp; (try with_reducible rfl))
  (try simp only [Act.put, List.setIfInBounds_toArray, List.set_cons_zero, List.set_cons_succ])
  refine wpAnyH_take (i := 1) (oi := { dst := some 42, op := _, type := _, pos := _, after := _, guard := _ }) (v := ?_) rfl (by kernel_rfl) (by kernel_rfl) (by kernel_rfl) (fun _ _ _ h => h) (Or.inl ⟨by rfl, ?_⟩) (by assumption) ?_
  rotate_left
  · (intro w hSw; (try dsimp only at hSw); go_simp; (try with_reducible rfl))
  (try simp only [Act.put, List.setIfInBounds_toArray, List.set_cons_zero, List.set_cons_succ])
  refine wpAnyH_take (i := 2) (oi := { dst := some 43, op := _, type := _, pos := _, after := _, guard := _ }) (v := ?_) rfl (by kernel_rfl) (by kernel_rfl) (by kernel_rfl) (fun _ _ _ h => h) (Or.inl ⟨by rfl, ?_⟩) (by assumption) ?_
  rotate_left
  · (intro w hSw; (try dsimp only at hSw); go_simp; (try with_reducible rfl))
  (try simp only [Act.put, List.setIfInBounds_toArray, List.set_cons_zero, List.set_cons_succ])
  refine wpAnyH_take (i := 3) (oi := { dst := some 44, op := _, type := _, pos := _, after := _, guard := _ }) (v := ?_) rfl (by kernel_rfl) (by kernel_rfl) (by kernel_rfl) (fun _ _ _ h => h) (Or.inl ⟨by rfl, ?_⟩) (by assumption) ?_
  rotate_left
  · (intro w hSw; (try dsimp only at hSw); go_simp; (try with_reducible rfl))
  (try simp only [Act.put, List.setIfInBounds_toArray, List.set_cons_zero, List.set_cons_succ])
  refine wpAnyH_take (i := 7) (oi := { dst := some 48, op := _, type := _, pos := _, after := _, guard := _ }) (v := ?_) rfl (by kernel_rfl) (by kernel_rfl) (by kernel_rfl) (fun _ _ _ h => h) (Or.inl ⟨by rfl, ?_⟩) (by assumption) ?_
  rotate_left
  · (intro w hSw; (try dsimp only at hSw); go_simp; (try with_reducible rfl))
  (try simp only [Act.put, List.setIfInBounds_toArray, List.set_cons_zero, List.set_cons_succ])
  refine wpAnyH_take (i := 8) (oi := { dst := some 49, op := _, type := _, pos := _, after := _, guard := _ }) (v := ?_) rfl (by kernel_rfl) (by kernel_rfl) (by kernel_rfl) (fun _ _ _ h => h) (Or.inl ⟨by rfl, ?_⟩) (by assumption) ?_
  rotate_left
  · (intro w hSw; (try dsimp only at hSw); go_simp; (try with_reducible rfl))
  (try simp only [Act.put, List.setIfInBounds_toArray, List.set_cons_zero, List.set_cons_succ])
  refine wpAnyH_take (i := 9) (oi := { dst := some 50, op := _, type := _, pos := _, after := _, guard := _ }) (v := ?_) rfl (by kernel_rfl) (by kernel_rfl) (by kernel_rfl) (fun _ _ _ h => h) (Or.inl ⟨by rfl, ?_⟩) (by assumption) ?_
  rotate_left
  · (intro w hSw; (try dsimp only at hSw); go_simp; (try with_reducible rfl))
  (try simp only [Act.put, List.setIfInBounds_toArray, List.set_cons_zero, List.set_cons_succ])
  refine wpAnyH_take (i := 10) (oi := { dst := some 51, op := _, type := _, pos := _, after := _, guard := _ }) (v := ?_) rfl (by kernel_rfl) (by kernel_rfl) (by kernel_rfl) (fun _ _ _ h => h) (Or.inl ⟨by rfl, ?_⟩) (by assumption) ?_
  rotate_left
  · (intro w hSw; (try dsimp only at hSw); go_simp; (try with_reducible rfl))
  (try simp only [Act.put, List.setIfInBounds_toArray, List.set_cons_zero, List.set_cons_succ])
  refine wpAnyH_take (i := 14) (oi := { dst := some 55, op := _, type := _, pos := _, after := _, guard := _ }) (v := ?_) rfl (by kernel_rfl) (by kernel_rfl) (by kernel_rfl) (fun _ _ _ h => h) (Or.inl ⟨by rfl, ?_⟩) (by assumption) ?_
  rotate_left
  · (intro w hSw; (try dsimp only at hSw); go_simp; (try with_reducible rfl))
  (try simp only [Act.put, List.setIfInBounds_toArray, List.set_cons_zero, List.set_cons_succ])
  refine wpAnyH_take (i := 15) (oi := { dst := some 56, op := _, type := _, pos := _, after := _, guard := _ }) (v := ?_) rfl (by kernel_rfl) (by kernel_rfl) (by kernel_rfl) (fun _ _ _ h => h) (Or.inl ⟨by rfl, ?_⟩) (by assumption) ?_
  rotate_left
  · (intro w hSw; (try dsimp only at hSw); go_simp; (try with_reducible rfl))
  (try simp only [Act.put, List.setIfInBounds_toArray, List.set_cons_zero, List.set_cons_succ])
  refine wpAnyH_take (i := 16) (oi := { dst := some 57, op := _, type := _, pos := _, after := _, guard := _ }) (v := ?_) rfl (by kernel_rfl) (by kernel_rfl) (by kernel_rfl) (fun _ _ _ h => h) (Or.inl ⟨by rfl, ?_⟩) (by assumption) ?_
  rotate_left
  · (intro w hSw; (try dsimp only at hSw); go_simp; (try with_reducible rfl))
  (try simp only [Act.put, List.setIfInBounds_toArray, List.set_cons_zero, List.set_cons_succ])
  refine wpAnyH_take (i := 17) (oi := { dst := some 58, op := _, type := _, pos := _, after := _, guard := _ }) (v := ?_) rfl (by kernel_rfl) (by kernel_rfl) (by kernel_rfl) (fun _ _ _ h => h) (Or.inl ⟨by rfl, ?_⟩) (by assumption) ?_
  rotate_left
  · (intro w hSw; (try dsimp only at hSw); go_simp; (try with_reducible rfl))
  (try simp only [Act.put, List.setIfInBounds_toArray, List.set_cons_zero, List.set_cons_succ])
  refine wpAnyH_ready (rs := [4]) (by kernel_rfl) (by simp) ?_
  refine AllReadyH.cons (o := { dst := some 45, op := _, type := _, pos := _, after := _, guard := _ }) rfl (fun K hK => ?_) AllReadyH.nil
  go_simp
  refine (HDX.out _).mono ?_; rintro e w1 ⟨rfl, hb1⟩; replace hE := hE.trans hb1; clear hb1
  try go_wp2_with fail
  refine hK.out _ _ ?_ (fun hHeld => ?_)
  · (try dsimp only); exact ⟨(HB.out.ext hE).cell 0, (HB.out.ext hE).cell 1, (HB.out.ext hE).cell 2⟩
  clear hK K
  (try simp only [Act.put, List.setIfInBounds_toArray, List.set_cons_zero, List.set_cons_succ])
  refine wpAnyH_take (i := 5) (oi := { dst := some 46, op := _, type := _, pos := _, after := _, guard := _ }) (v := ?_) rfl (by kernel_rfl) (by kernel_rfl) (by kernel_rfl) (fun _ _ _ h => h) (Or.inl ⟨by rfl, ?_⟩) (by assumption) ?_
  rotate_left
  · (intro w hSw; (try dsimp only at hSw); go_simp; (try with_reducible rfl))
  (try simp only [Act.put, List.setIfInBounds_toArray, List.set_cons_zero, List.set_cons_succ])
  refine wpAnyH_take (i := 6) (oi := { dst := some 47, op := _, type := _, pos := _, after := _, guard := _ }) (v := ?_) rfl (by kernel_rfl) (by kernel_rfl) (by kernel_rfl) (fun _ _ _ h => h) (Or.inl ⟨by rfl, ?_⟩) (by assumption) ?_
  rotate_left
  · (intro w hSw; (try dsimp only at hSw); go_simp; (try with_reducible rfl))
  (try simp only [Act.put, List.setIfInBounds_toArray, List.set_cons_zero, List.set_cons_succ])
  refine wpAnyH_ready (rs := [11]) (by kernel_rfl) (by simp) ?_
  refine AllReadyH.cons (o := { dst := some 52, op := _, type := _, pos := _, after := _, guard := _ }) rfl (fun K hK => ?_) AllReadyH.nil
  go_simp
  refine (HDY.out _).mono ?_; rintro e w1 ⟨rfl, hb1⟩; replace hE := hE.trans hb1; clear hb1
  try go_wp2_with fail
  refine hK.out _ _ ?_ (fun hHeld => ?_)
  · (try dsimp only); exact ⟨(HB.out.ext hE).cell 0, (HB.out.ext hE).cell 1, (HB.out.ext hE).cell 2⟩
  clear hK K
  (try simp only [Act.put, List.setIfInBounds_toArray, List.set_cons_zero, List.set_cons_succ])
  refine wpAnyH_take (i := 12) (oi := { dst := some 53, op := _, type := _, pos := _, after := _, guard := _ }) (v := ?_) rfl (by kernel_rfl) (by kernel_rfl) (by kernel_rfl) (fun _ _ _ h => h) (Or.inl ⟨by rfl, ?_⟩) (by assumption) ?_
  rotate_left
  · (intro w hSw; (try dsimp only at hSw); go_simp; (try with_reducible rfl))
  (try simp only [Act.put, List.setIfInBounds_toArray, List.set_cons_zero, List.set_cons_succ])
  refine wpAnyH_take (i := 13) (oi := { dst := some 54, op := _, type := _, pos := _, after := _, guard := _ }) (v := ?_) rfl (by kernel_rfl) (by kernel_rfl) (by kernel_rfl) (fun _ _ _ h => h) (Or.inl ⟨by rfl, ?_⟩) (by assumption) ?_
  rotate_left
  · (intro w hSw; (try dsimp only at hSw); go_simp; (try with_reducible rfl))
  (try simp only [Act.put, List.setIfInBounds_toArray, List.set_cons_zero, List.set_cons_succ])
  refine wpAnyH_ready (rs := [18]) (by kernel_rfl) (by simp) ?_
  refine AllReadyH.cons (o := { dst := some 59, op := _, type := _, pos := _, after := _, guard := _ }) rfl (fun K hK => ?_) AllReadyH.nil
  go_simp
  refine (HDZ.out _).mono ?_; rintro e w1 ⟨rfl, hb1⟩; replace hE := hE.trans hb1; clear hb1
  try go_wp2_with fail
  refine hK.out _ _ ?_ (fun hHeld => ?_)
  · (try dsimp only); exact ⟨(HB.out.ext hE).cell 0, (HB.out.ext hE).cell 1, (HB.out.ext hE).cell 2⟩
  clear hK K
  (try simp only [Act.put, List.setIfInBounds_toArray, List.set_cons_zero, List.set_cons_succ])
  refine wpAnyH_take (i := 19) (oi := { dst := some 60, op := _, type := _, pos := _, after := _, guard := _ }) (v := ?_) rfl (by kernel_rfl) (by kernel_rfl) (by kernel_rfl) (fun _ _ _ h => h) (Or.inl ⟨by rfl, ?_⟩) (by assumption) ?_
  rotate_left
  · (intro w hSw; (try dsimp only at hSw); go_simp; (try with_reducible rfl))
  (try simp only [Act.put, List.setIfInBounds_toArray, List.set_cons_zero, List.set_cons_succ])
  refine wpAnyH_take (i := 20) (oi := { dst := some 61, op := _, type := _, pos := _, after := _, guard := _ }) (v := ?_) rfl (by kernel_rfl) (by kernel_rfl) (by kernel_rfl) (fun _ _ _ h => h) (Or.inl ⟨by rfl, ?_⟩) (by assumption) ?_
  rotate_left
  · (intro w hSw; (try dsimp only at hSw); go_simp; (try with_reducible rfl))
  (try simp only [Act.put, List.setIfInBounds_toArray, List.set_cons_zero, List.set_cons_succ])
  refine wpAnyH_ready (rs := [21]) (by kernel_rfl) (by simp) ?_
  refine AllReadyH.cons (o := { dst := some 62, op := _, type := _, pos := _, after := _, guard := _ }) rfl (fun K hK => ?_) AllReadyH.nil
  go_simp
  have hfl : RdF _ (some ⟨_, 0, none⟩) 1 (chFs X Y Z) := rdf_new hE (chFs X Y Z) 28 rfl HT.out; replace hE := hE.alloc (.cells #[.string ⟨#[99, 97, 99, 104, 101, 45, 99, 111, 110, 116, 114, 111, 108]⟩, .string ((((((⟨#[109, 97, 120, 45, 97, 103, 101, 61]⟩ : ByteArray) ++ decS X) ++ ⟨#[44, 32, 115, 116, 97, 108, 101, 45, 119, 104, 105, 108, 101, 45, 114, 101, 118, 97, 108, 105, 100, 97, 116, 101, 61]⟩) ++ decS Y) ++ ⟨#[44, 32, 115, 116, 97, 108, 101, 45, 105, 102, 45, 101, 114, 114, 111, 114, 61]⟩) ++ decS Z)] 28)
  try go_wp2_with fail
  refine hK.out _ _ ?_ (fun hHeld => ?_)
  · (try dsimp only); exact ⟨(HB.out.ext hE).cell 0, (HB.out.ext hE).cell 1, (HB.out.ext hE).cell 2⟩
  clear hK K
  (try simp only [Act.put, List.setIfInBounds_toArray, List.set_cons_zero, List.set_cons_succ])
  refine wpAnyH_take (i := 22) (oi := { dst := some 7, op := _, type := _, pos := _, after := _, guard := _ }) (v := ?_) rfl (by kernel_rfl) (by kernel_rfl) (by kernel_rfl) (fun _ _ _ h => h) (Or.inl ⟨by rfl, ?_⟩) (by assumption) ?_
  rotate_left
  · (intro w hSw; (try dsimp only at hSw); go_simp; (try with_reducible rfl))
  (try simp only [Act.put, List.setIfInBounds_toArray, List.set_cons_zero, List.set_cons_succ])
  refine wpAnyH_done (by kernel_rfl) ?_ _
  have hbf := Rd.lowF hfl (by decide) _ rfl
  have HF := Lib.hid hfl
  have HXf := Lib.hid (HE.out.trans hE)
  clear hfl hE s1 s2 s3 s4 s5 HW2 HT
  generalize w1.alloc (.cells #[.string ⟨#[99, 97, 99, 104, 101, 45, 99, 111, 110, 116, 114, 111, 108]⟩, .string ((((((⟨#[109, 97, 120, 45, 97, 103, 101, 61]⟩ : ByteArray) ++ decS X) ++ ⟨#[44, 32, 115, 116, 97, 108, 101, 45, 119, 104, 105, 108, 101, 45, 114, 101, 118, 97, 108, 105, 100, 97, 116, 101, 61]⟩) ++ decS Y) ++ ⟨#[44, 32, 115, 116, 97, 108, 101, 45, 105, 102, 45, 101, 114, 114, 111, 114, 61]⟩) ++ decS Z)] 28) = Wf at *
  generalize w1.heap.size = bf at *
  go_wp2_with fail
  have HG := Lib.hid (Blk.new Wf 34 #[.int .i64 0, .slice none 0 0, .int .i64 0, .int .i64 0, .int .i64 0, .bool false])
  have hbf2 : bf < Wf.heap.size := hbf
  have hwg := HXf.out.size
  have HX1 := Lib.hid (HXf.out.alloc (.cells #[.int .i64 0, .slice none 0 0, .int .i64 0, .int .i64 0, .int .i64 0, .bool false] 34))
  have HF1 := Lib.hid (HF.out.alloc (.cells #[.int .i64 0, .slice none 0 0, .int .i64 0, .int .i64 0, .int .i64 0, .bool false] 34))
  clear hbf
  generalize Wf.alloc (.cells #[.int .i64 0, .slice none 0 0, .int .i64 0, .int .i64 0, .int .i64 0, .bool false] 34) = W1 at *
  generalize Wf.heap.size = ga at *
  have HNE := Lib.hid (show ∀ a : Addr, (some ⟨bf, 0, none⟩ : Option Addr) = some a → a.block ≠ ga from fun a h => by injection h with h; subst h; show bf ≠ ga; omega)
  have HWG := Lib.hid (show w.heap.size ≤ ga from hwg)
  clear hbf2 hwg HF HXf
  go_loopw [8, 9, 10, 65] (fun t m g i wr => ∃ (k : Nat) (T M G : Int) (old : Array Value), k ≤ n ∧ i = .int .i64 (k : Nat) ∧ t = .int .i64 T ∧ m = .int .i64 M ∧ g = .int .i64 G ∧ ExtB ga W1 wr ∧ Blk wr ga 34 old ∧ old.size = 6 ∧ ChP k T M G ∧
      (∀ k', k = k' + 1 → ∃ cc a b' sp, cl[k']? = some cc ∧ old = #[.int .i64 200, .slice (some ⟨bf, 0, none⟩) 1 1, .int .i64 a, .int .i64 b', .int .i64 sp, .bool false] ∧ ChS cc T M sp a b')) (fun _ _ _ i _ => n - (intOf i).toNat)
  case atStart => exact ⟨0, 0, 0, -1, _, Nat.zero_le _, rfl, rfl, rfl, rfl, ExtB.refl _ _, HG.out, rfl, ch_start, fun k' h => by omega⟩
  case round =>
    obtain ⟨k, T, M, G, old, hk, rfl, rfl, rfl, rfl, hx, hB, hos, hP, hS⟩ := hrel
    have HEr := Lib.hid (HX1.out.growB hx HWG.out)
    have Hx := Lib.hid hx; have HBo := Lib.hid hB; have Hos := Lib.hid hos; have HP := Lib.hid hP; have HS := Lib.hid hS
    clear hx hB hos hP hS
    by_cases hlt : k < n
    · have hlt' : k < cl.length := by have := Hl.out; omega
      obtain ⟨b2, o2, rfl, hc⟩ := (hr.ext HEr.out).atM caC_len hlt' (by decide)
      have hcc := List.getElem?_eq_getElem hlt'
      have hok2 := hok cl[k] (List.getElem_mem hlt')
      generalize cl[k] = cc at *
      obtain ⟨of, dr, ask, cm, st⟩ := cc
      have HOK := Lib.hid hok2
      obtain ⟨o0, o1, p0, p1, r0, r1, s0, s1, dd0, dd1⟩ := hok2
      simp only [] at o0 o1 p0 p1 r0 r1 s0 s1 dd0 dd1
      have c0 : wr.cell? ⟨b2, o2 + k * 5, none⟩ = some (.int .u16 of) := hc 0 _ (by decide) rfl
      have c1 : wr.cell? ⟨b2, o2 + k * 5 + 1, none⟩ = some (.int .i8 dr) := by rw [Nat.add_assoc]; exact hc 1 _ (by decide) rfl
      have c2 : wr.cell? ⟨b2, o2 + k * 5 + 2, none⟩ = some (.int .u16 ask) := by rw [Nat.add_assoc]; exact hc 2 _ (by decide) rfl
      have c3 : wr.cell? ⟨b2, o2 + k * 5 + 3, none⟩ = some (.int .u16 cm) := by rw [Nat.add_assoc]; exact hc 3 _ (by decide) rfl
      have c4 : wr.cell? ⟨b2, o2 + k * 5 + 4, none⟩ = some (.int .u16 st) := by rw [Nat.add_assoc]; exact hc 4 _ (by decide) rfl
      have HCC := Lib.hid hcc
      clear hc hcc hok
      have hkn := clkN_bd dr
      obtain ⟨kn0, kn1⟩ := hkn
      have hgaw := HBo.out.lt
      have hk6 : k < 6 := by omega
      by_cases hk0 : k = 0
      · have hz : ((k : Int) == 0) = true := by rw [beq_iff_eq]; omega
        have hround := ch_round (sent := T) (M' := (T + ask)) (t1 := (T + ask)) HP.out hk6 HOK.out (.inl ⟨hk0, rfl, rfl, rfl⟩)
        obtain ⟨lo, hi, hat, hi0, hi1, hP2, hS2, u0, u1, u2, u3⟩ := hround
        have HAt := Lib.hid (show atO ⟨rdS of (clkN dr) 1000 T, rdS of (clkN dr) 1000 ((T + ask) + cm), G⟩ (rdS of (clkN dr) 1000 ((T + ask) + cm + st)) 20000 = some (lo, hi) from hat)
        have HP2 := Lib.hid hP2
        have HS2 := Lib.hid (show ChS ⟨of, dr, ask, cm, st⟩ ((T + ask) + cm + st) (T + ask) G (rdS of (clkN dr) 1000 T) (rdS of (clkN dr) 1000 ((T + ask) + cm)) from hS2)
        obtain ⟨_, T0, T1, _⟩ := HP.out
        clear hat hP2 hS2 hk0
        have HC := Lib.hid (fun w => top_clockOf of dr ask cm st w o0 o1 dd0 dd1)
        have HR := Lib.hid (fun t w h0 h1 => clock_Read of (clkN dr) 1000 t w (by omega) (by omega) (by omega) (by omega) (by omega) (by omega) h0 h1)
        generalize clkN dr = kn at *
        go_wp2_with fail
        have HK13 := Lib.hid (Blk.new wr 37 #[.int .u16 of, .int .i8 dr, .int .u16 ask, .int .u16 cm, .int .u16 st])
        have h1 := (Ext.refl wr).alloc (.cells #[.int .u16 of, .int .i8 dr, .int .u16 ask, .int .u16 cm, .int .u16 st] 37)
        refine (HC.out _).mono ?_; rintro e w2 ⟨rfl, hb2⟩
        have h2 := h1.trans hb2
        have HK13b := Lib.hid (HK13.out.ext hb2)
        go_wp2_with fail
        have HK15 := Lib.hid (Blk.new w2 39 #[.int .i64 of, .int .i64 kn, .int .i64 1000])
        have h3 := h2.alloc (.cells #[.int .i64 of, .int .i64 kn, .int .i64 1000] 39)
        refine (HR.out T _ (by omega) (by omega)).mono ?_; rintro e w4 ⟨rfl, hb4⟩
        have h4 := h3.trans hb4
        have k0 := (HK15.out.ext hb4).cell 0
        have k1 := (HK15.out.ext hb4).cell 1
        have k2 := (HK15.out.ext hb4).cell 2
        clear c0 c1 c2 c3 c4
        have cm3 := ((HK13b.out.alloc (.cells #[.int .i64 of, .int .i64 kn, .int .i64 1000] 39)).ext hb4).cell 3
        go_wp2_with fail
        refine (HR.out ((T + ask) + cm) _ (by omega) (by omega)).mono ?_; rintro e w5 ⟨rfl, hb5⟩
        have h5 := h4.trans hb5
        have HK13c := Lib.hid (((HK13b.out.alloc (.cells #[.int .i64 of, .int .i64 kn, .int .i64 1000] 39)).ext hb4).ext hb5)
        have HK15c := Lib.hid ((HK15.out.ext hb4).ext hb5)
        have sz2 := h2.size
        have HB5 := Lib.hid (HBo.out.ext h5)
        clear k0 k1 k2 cm3
        go_wp2_with (first
          | (refine wpList_storeB rfl 34 (.tmp 11) (.tmp 115) rfl rfl ga _ rfl rfl 34 old HB5.out infoSt Hos.out (by simp [Value.oneCell']) ?_; intro w6 hN6 hX6; have m4 := (HK13c.out.grown hX6 (by simp; omega)).cell 4; have n0 := (HK15c.out.grown hX6 (by simp; omega)).cell 0; have n1 := (HK15c.out.grown hX6 (by simp; omega)).cell 1; have n2 := (HK15c.out.grown hX6 (by simp; omega)).cell 2))
        refine (HR.out ((T + ask) + cm + st) _ (by omega) (by omega)).mono ?_; rintro e w7 ⟨rfl, hb7⟩
        have hN7 := hN6.ext hb7
        have s2 := hN7.cell 2
        have s3 := hN7.cell 3
        have s4 := hN7.cell 4
        clear m4 n0 n1 n2
        have hFd : Calls Tryd.prog 13 #[.agg #[.int .i64 (rdS of kn 1000 T), .int .i64 (rdS of kn 1000 ((T + ask) + cm)), .int .i64 G], .int .i64 (rdS of kn 1000 ((T + ask) + cm + st)), .int .i64 20000] w7 fun e w' => e = .returned (.tuple #[.int .i64 (hi / 1000), .nilIface]) ∧ Ext w7 w' := by
          have h := age_Field (rdS of kn 1000 T) (rdS of kn 1000 ((T + ask) + cm)) G (rdS of kn 1000 ((T + ask) + cm + st)) 20000 w7
          rw [HAt.out] at h
          exact h
        go_wp2_with fail
        refine hFd.mono ?_; rintro e w8 ⟨rfl, hb8⟩
        have HB8 := Lib.hid (hN7.ext hb8)
        have HX8 := Lib.hid (Hx.out.trans ((ExtB.of h5).trans (hX6.trans (ExtB.of (hb7.trans hb8)))))
        clear s2 s3 s4 hFd hN7 hN6 hX6 h1 h2 h3 h4 h5 hb2 hb4 hb5 hb7 hb8 HC HR HK13 HK13b HK13c HK15 HK15c
        go_wp2_with fail
        go_roundw
        case rel => exact ⟨k + 1, ((T + ask) + cm + st), (T + ask), hi / 1000, _, by omega, by go_num, rfl, rfl, rfl, HX8.out, HB8.out, rfl, HP2.out, fun k' h => ⟨_, (rdS of kn 1000 T), (rdS of kn 1000 ((T + ask) + cm)), G, (by rw [show k' = k by omega]; exact HCC.out), rfl, HS2.out⟩⟩
        case measure => simp [intOf]; omega
      · have hz : ((k : Int) == 0) = false := by rw [beq_eq_false_iff_ne]; omega
        have hround := ch_round (sent := (max 0 (T - ask))) (M' := M) (t1 := T) HP.out hk6 HOK.out (.inr ⟨by omega, rfl, rfl, rfl⟩)
        obtain ⟨lo, hi, hat, hi0, hi1, hP2, hS2, u0, u1, u2, u3⟩ := hround
        have HAt := Lib.hid (show atO ⟨rdS of (clkN dr) 1000 (max 0 (T - ask)), rdS of (clkN dr) 1000 (T + cm), G⟩ (rdS of (clkN dr) 1000 (T + cm + st)) 20000 = some (lo, hi) from hat)
        have HP2 := Lib.hid hP2
        have HS2 := Lib.hid (show ChS ⟨of, dr, ask, cm, st⟩ (T + cm + st) M G (rdS of (clkN dr) 1000 (max 0 (T - ask))) (rdS of (clkN dr) 1000 (T + cm)) from hS2)
        obtain ⟨_, T0, T1, _⟩ := HP.out
        clear hat hP2 hS2 hk0
        have HC := Lib.hid (fun w => top_clockOf of dr ask cm st w o0 o1 dd0 dd1)
        have HR := Lib.hid (fun t w h0 h1 => clock_Read of (clkN dr) 1000 t w (by omega) (by omega) (by omega) (by omega) (by omega) (by omega) h0 h1)
        generalize clkN dr = kn at *
        go_wp2_with fail
        have HK13 := Lib.hid (Blk.new wr 37 #[.int .u16 of, .int .i8 dr, .int .u16 ask, .int .u16 cm, .int .u16 st])
        have h1 := (Ext.refl wr).alloc (.cells #[.int .u16 of, .int .i8 dr, .int .u16 ask, .int .u16 cm, .int .u16 st] 37)
        refine (HC.out _).mono ?_; rintro e w2 ⟨rfl, hb2⟩
        have h2 := h1.trans hb2
        have HK13b := Lib.hid (HK13.out.ext hb2)
        go_wp2_with fail
        have HK15 := Lib.hid (Blk.new w2 39 #[.int .i64 of, .int .i64 kn, .int .i64 1000])
        have h3 := h2.alloc (.cells #[.int .i64 of, .int .i64 kn, .int .i64 1000] 39)
        refine (HR.out (max 0 (T - ask)) _ (by omega) (by omega)).mono ?_; rintro e w4 ⟨rfl, hb4⟩
        have h4 := h3.trans hb4
        have k0 := (HK15.out.ext hb4).cell 0
        have k1 := (HK15.out.ext hb4).cell 1
        have k2 := (HK15.out.ext hb4).cell 2
        clear c0 c1 c2 c3 c4
        have cm3 := ((HK13b.out.alloc (.cells #[.int .i64 of, .int .i64 kn, .int .i64 1000] 39)).ext hb4).cell 3
        go_wp2_with fail
        refine (HR.out (T + cm) _ (by omega) (by omega)).mono ?_; rintro e w5 ⟨rfl, hb5⟩
        have h5 := h4.trans hb5
        have HK13c := Lib.hid (((HK13b.out.alloc (.cells #[.int .i64 of, .int .i64 kn, .int .i64 1000] 39)).ext hb4).ext hb5)
        have HK15c := Lib.hid ((HK15.out.ext hb4).ext hb5)
        have sz2 := h2.size
        have HB5 := Lib.hid (HBo.out.ext h5)
        clear k0 k1 k2 cm3
        go_wp2_with (first
          | (refine wpList_storeB rfl 34 (.tmp 11) (.tmp 115) rfl rfl ga _ rfl rfl 34 old HB5.out infoSt Hos.out (by simp [Value.oneCell']) ?_; intro w6 hN6 hX6; have m4 := (HK13c.out.grown hX6 (by simp; omega)).cell 4; have n0 := (HK15c.out.grown hX6 (by simp; omega)).cell 0; have n1 := (HK15c.out.grown hX6 (by simp; omega)).cell 1; have n2 := (HK15c.out.grown hX6 (by simp; omega)).cell 2))
        refine (HR.out (T + cm + st) _ (by omega) (by omega)).mono ?_; rintro e w7 ⟨rfl, hb7⟩
        have hN7 := hN6.ext hb7
        have s2 := hN7.cell 2
        have s3 := hN7.cell 3
        have s4 := hN7.cell 4
        clear m4 n0 n1 n2
        have hFd : Calls Tryd.prog 13 #[.agg #[.int .i64 (rdS of kn 1000 (max 0 (T - ask))), .int .i64 (rdS of kn 1000 (T + cm)), .int .i64 G], .int .i64 (rdS of kn 1000 (T + cm + st)), .int .i64 20000] w7 fun e w' => e = .returned (.tuple #[.int .i64 (hi / 1000), .nilIface]) ∧ Ext w7 w' := by
          have h := age_Field (rdS of kn 1000 (max 0 (T - ask))) (rdS of kn 1000 (T + cm)) G (rdS of kn 1000 (T + cm + st)) 20000 w7
          rw [HAt.out] at h
          exact h
        go_wp2_with fail
        refine hFd.mono ?_; rintro e w8 ⟨rfl, hb8⟩
        have HB8 := Lib.hid (hN7.ext hb8)
        have HX8 := Lib.hid (Hx.out.trans ((ExtB.of h5).trans (hX6.trans (ExtB.of (hb7.trans hb8)))))
        clear s2 s3 s4 hFd hN7 hN6 hX6 h1 h2 h3 h4 h5 hb2 hb4 hb5 hb7 hb8 HC HR HK13 HK13b HK13c HK15 HK15c
        go_wp2_with fail
        go_roundw
        case rel => exact ⟨k + 1, (T + cm + st), M, hi / 1000, _, by omega, by go_num, rfl, rfl, rfl, HX8.out, HB8.out, rfl, HP2.out, fun k' h => ⟨_, (rdS of kn 1000 (max 0 (T - ask))), (rdS of kn 1000 (T + cm)), G, (by rw [show k' = k by omega]; exact HCC.out), rfl, HS2.out⟩⟩
        case measure => simp [intOf]; omega
    · obtain rfl : k = n := by omega
      have hn1 : 1 ≤ k := by omega
      obtain ⟨m, rfl⟩ : ∃ m, k = m + 1 := ⟨k - 1, by omega⟩
      obtain ⟨cc, a, b2, sp, hcm, rfl, hs⟩ := HS.out m rfl
      have hlm2 : m < cl.length := by have := Hl.out; omega
      obtain ⟨b3, o3, rfl, hc⟩ := (hr.ext HEr.out).atM caC_len hlm2 (by decide)
      have hcc : cl[m] = cc := by rw [List.getElem?_eq_getElem hlm2] at hcm; exact Option.some.inj hcm
      have hok2 := hok cl[m] (List.getElem_mem hlm2)
      rw [hcc] at hc hok2
      obtain ⟨of, dr, ask, cm, st⟩ := cc
      have HS9 := Lib.hid hs
      obtain ⟨_, T0, T1, _, _, M0, M1, _, _⟩ := HP.out
      have hlast := ch_last (T2 := T + wt) hs hok2 (by omega) (by omega)
      obtain ⟨lo, hi, hat, u0, u1⟩ := hlast
      obtain ⟨o0, o1, p0, p1, r0, r1, s0, s1, dd0, dd1⟩ := hok2
      simp only [] at o0 o1 p0 p1 r0 r1 s0 s1 dd0 dd1
      have c0 : wr.cell? ⟨b3, o3 + m * 5, none⟩ = some (.int .u16 of) := hc 0 _ (by decide) rfl
      have c1 : wr.cell? ⟨b3, o3 + m * 5 + 1, none⟩ = some (.int .i8 dr) := by rw [Nat.add_assoc]; exact hc 1 _ (by decide) rfl
      have c2 : wr.cell? ⟨b3, o3 + m * 5 + 2, none⟩ = some (.int .u16 ask) := by rw [Nat.add_assoc]; exact hc 2 _ (by decide) rfl
      have c3 : wr.cell? ⟨b3, o3 + m * 5 + 3, none⟩ = some (.int .u16 cm) := by rw [Nat.add_assoc]; exact hc 3 _ (by decide) rfl
      have c4 : wr.cell? ⟨b3, o3 + m * 5 + 4, none⟩ = some (.int .u16 st) := by rw [Nat.add_assoc]; exact hc 4 _ (by decide) rfl
      clear hc hcc hcm hok hs
      obtain ⟨kn0, kn1⟩ := clkN_bd dr
      have HFr := Lib.hid (Rd.growB HF1.out Hx.out HNE.out)
      obtain ⟨mX, mY, mZ⟩ := HBX.out
      have hnc : (ccD (chFs X Y Z)).b1 = false := by rw [ch_cc ⟨mX.1, by omega⟩ ⟨mY.1, by omega⟩ ⟨mZ.1, by omega⟩]; rfl
      have HAt := Lib.hid (show atO ⟨a, b2, sp⟩ (rdS of (clkN dr) 1000 (T + wt)) 20000 = some (lo, hi) from hat)
      have HC := Lib.hid (fun w => top_clockOf of dr ask cm st w o0 o1 dd0 dd1)
      have HR := Lib.hid (fun w => clock_Read of (clkN dr) 1000 (T + wt) w (by omega) (by omega) (by omega) (by omega) (by omega) (by omega) (by omega) (by omega))
      clear hat
      generalize rdS of (clkN dr) 1000 (T + wt) = rn at *
      generalize clkN dr = kn at *
      have HJl := Lib.hid (@jdS_limit ⟨200, chFs X Y Z, ⟨a, b2, sp⟩, false⟩ noneD rn 20000 (T + wt - M) (fun p hp => by rw [show atO (⟨a, b2, sp⟩ : Tm) rn 20000 = some (lo, hi) from HAt.out] at hp; injection hp with hp; rw [← hp]; exact u0))
      have hpl := (@jdS_plain ⟨200, chFs X Y Z, ⟨a, b2, sp⟩, false⟩ rn 20000 hnc).1
      have hfr : frS ⟨a, b2, sp⟩ rn 20000 (lifeS ⟨200, chFs X Y Z, ⟨a, b2, sp⟩, false⟩) = decide (hi < lifeS ⟨200, chFs X Y Z, ⟨a, b2, sp⟩, false⟩) := by unfold frS; rw [HAt.out]
      have HPl := Lib.hid (hpl.trans hfr)
      have HAt2 := Lib.hid (fun w => show Calls Tryd.prog 19 #[.agg #[.int .i64 a, .int .i64 b2, .int .i64 sp], .int .i64 rn, .int .i64 20000] w fun e w' => e = .returned (.tuple #[.int .i64 lo, .int .i64 hi, .nilIface]) ∧ Ext w w' from by
        have h := age_At a b2 sp rn 20000 w
        rw [HAt.out] at h
        exact h)
      clear hpl hfr hnc HBX HS HS9 HP HAt
      have hm1 : ((m + 1 : Nat) : Int) - 1 = (m : Int) := by omega
      go_wp2_with fail
      refine (HC.out _).mono ?_; rintro e w2 ⟨rfl, hb2⟩
      go_wp2_with fail
      refine (HR.out _).mono ?_; rintro e w3 ⟨rfl, hb3⟩
      have h3 := hb2.trans hb3
      clear c0 c1 c2 c3 c4
      go_wp2_with fail
      refine (life_Of 200 (some ⟨bf, 0, none⟩) 1 1 (chFs X Y Z) _ (HFr.out.ext h3) (by decide) ((bsz_of_sumF _).mono (by have := HSz.out; omega)) (hg.ext (HEr.out.trans h3)) (by have := HSz.out; omega) (hgl.ext (HEr.out.trans h3))).mono ?_; rintro e w4 ⟨rfl, hb4⟩
      have h4 := h3.trans hb4
      rw [show pairV (ofS 200 (chFs X Y Z)) = .tuple #[.int .i64 (lifeS ⟨200, chFs X Y Z, ⟨a, b2, sp⟩, false⟩), .int .i64 (ofS 200 (chFs X Y Z)).2] from rfl]
      generalize (ofS 200 (chFs X Y Z)).2 = kd at *
      go_wp2_with fail
      have HB4 := Lib.hid (HBo.out.ext h4)
      have hE := (Ext.refl w4).drew
      refine wp_region_held_drew (S := (fun w' => Blk w' ga 34 #[.int .i64 200, .slice (some ⟨bf, 0, none⟩) 1 1, .int .i64 a, .int .i64 b2, .int .i64 sp, .bool false])) (by kernel_rfl) ?_ (fun hHeld => ?_)
      · (try dsimp only); exact HB4.out.ext hE
      refine wpAnyH_take (i := 0) (oi := { dst := some 162, op := _, type := _, pos := _, after := _, guard := _ }) (v := .agg #[.int .i64 200, .slice (some ⟨bf, 0, none⟩) 1 1, .int .i64 a, .int .i64 b2, .int .i64 sp, .bool false]) rfl (by kernel_rfl) (by kernel_rfl) (by kernel_rfl) (fun _ _ _ h => h) (yield_loadB rfl 34 (.tmp 11) rfl ga rfl 34 _ (fun w h => h) _ Tryd.underlying34 infoSt) (by assumption) ?_
      (try simp only [Act.put, List.setIfInBounds_toArray, List.set_cons_zero, List.set_cons_succ])
      refine wpAnyH_take (i := 2) (oi := { dst := some 164, op := _, type := _, pos := _, after := _, guard := _ }) (v := ?_) rfl (by kernel_rfl) (by kernel_rfl) (by kernel_rfl) (fun _ _ _ h => h) (Or.inl ⟨by rfl, ?_⟩) (by assumption) ?_
      rotate_left
      · (intro w hSw; (try dsimp only at hSw); go_simp; (try with_reducible rfl))
      (try simp only [Act.put, List.setIfInBounds_toArray, List.set_cons_zero, List.set_cons_succ])
      refine wpAnyH_ready (rs := [1]) (by kernel_rfl) (by simp) ?_
      refine AllReadyH.cons (o := { dst := some 163, op := _, type := _, pos := _, after := _, guard := _ }) rfl (fun K hK => ?_) AllReadyH.nil
      go_simp
      refine (dir_None _).mono ?_; rintro e w1 ⟨rfl, hb1⟩; replace hE := hE.trans hb1; clear hb1
      try go_wp2_with fail
      refine hK.out _ _ ?_ (fun hHeld => ?_)
      · (try dsimp only); exact HB4.out.ext hE
      clear hK K
      (try simp only [Act.put, List.setIfInBounds_toArray, List.set_cons_zero, List.set_cons_succ])
      refine wpAnyH_ready (rs := [3]) (by kernel_rfl) (by simp) ?_
      refine AllReadyH.cons (o := { dst := some 165, op := _, type := _, pos := _, after := _, guard := _ }) rfl (fun K hK => ?_) AllReadyH.nil
      go_simp
      refine (policy_Judge 200 (some ⟨bf, 0, none⟩) 1 1 (chFs X Y Z) a b2 sp false noneD rn 20000 _ (HFr.out.ext (h4.trans hE)) (by decide) ((bsz_of_sumF _).mono (by have := HSz.out; omega)) (hg.ext (HEr.out.trans (h4.trans hE))) (by have := HSz.out; omega) (hgl.ext (HEr.out.trans (h4.trans hE)))).mono ?_; rintro e w1 ⟨rfl, hb1⟩; replace hE := hE.trans hb1; clear hb1
      try go_wp2_with fail
      refine hK.out _ _ ?_ (fun hHeld => ?_)
      · (try dsimp only); exact HB4.out.ext hE
      clear hK K
      (try simp only [Act.put, List.setIfInBounds_toArray, List.set_cons_zero, List.set_cons_succ])
      refine wpAnyH_take (i := 4) (oi := { dst := some 25, op := _, type := _, pos := _, after := _, guard := _ }) (v := ?_) rfl (by kernel_rfl) (by kernel_rfl) (by kernel_rfl) (fun _ _ _ h => h) (Or.inl ⟨by rfl, ?_⟩) (by assumption) ?_
      rotate_left
      · (intro w hSw; (try dsimp only at hSw); go_simp; (try with_reducible rfl))
      (try simp only [Act.put, List.setIfInBounds_toArray, List.set_cons_zero, List.set_cons_succ])
      refine wpAnyH_done (by kernel_rfl) ?_ _
      have HhJ := Lib.hid (h4.trans hE)
      have HBJ := Lib.hid (HBo.out.ext HhJ.out)
      clear hE hb2 hb3 hb4 h3 h4 HB4
      obtain ⟨j1, j2, j3⟩ := HJl.out
      generalize hlf : lifeS ⟨200, chFs X Y Z, ⟨a, b2, sp⟩, false⟩ = life at *
      generalize hlm : lmS ⟨200, chFs X Y Z, ⟨a, b2, sp⟩, false⟩ = lim at *
      generalize hJq : jdS ⟨200, chFs X Y Z, ⟨a, b2, sp⟩, false⟩ noneD rn 20000 = J at *
      generalize hoe : oeS ⟨200, chFs X Y Z, ⟨a, b2, sp⟩, false⟩ rn 20000 = oe at *
      have hPl := HPl.out
      have HJJ := Lib.hid (⟨j1, j2⟩ : _ ∧ _)
      have HJ3 := Lib.hid j3
      clear j1 j2 j3 HJl HPl hlf hJq
      by_cases h1 : J = 1
      · have z1 : (J == 1) = true := by rw [beq_iff_eq]; exact h1
        have z2 : (J == 2) = false := by rw [beq_eq_false_iff_ne]; omega
        have y1 : T + wt - M < life := HJJ.out.1 h1
        have y1b : ¬ life ≤ T + wt - M := by omega
        clear h1 hPl HJJ
        go_wp2_with (first
          | (refine wpList_loadBG (by rfl) 34 (.tmp 11) rfl ga rfl 34 _ HBJ.out _ Tryd.underlying34 infoSt ?_))
        refine (policy_OnError 200 (some ⟨bf, 0, none⟩) 1 1 (chFs X Y Z) a b2 sp false rn 20000 _ (HFr.out.ext HhJ.out) (by decide) ((bsz_of_sumF _).mono (by have := HSz.out; omega)) (hg.ext (HEr.out.trans HhJ.out)) (by have := HSz.out; omega) (hgl.ext (HEr.out.trans HhJ.out))).mono ?_; rintro e w6 ⟨rfl, hb6⟩
        have h6 := HhJ.out.trans hb6
        have HB6 := Lib.hid (HBo.out.ext h6)
        rw [hoe]
        cases oe
        · have s2 := (HBo.out.ext h6).cell 2
          have s3 := (HBo.out.ext h6).cell 3
          have s4 := (HBo.out.ext h6).cell 4
          go_wp2_with fail
          refine (HAt2.out _).mono ?_; rintro e wZ ⟨rfl, hbZ⟩
          go_wp2_with fail
          go_ret
          exact ⟨rfl, HEr.out.trans ((h6).trans hbZ)⟩
        · have y3 : T + wt - M < lim := HJ3.out rfl
          have y3b : ¬ lim ≤ T + wt - M := by omega
          go_wp2_with (first
            | (refine wpList_loadBG (by rfl) 34 (.tmp 11) rfl ga rfl 34 _ HB6.out _ Tryd.underlying34 infoSt ?_))
          refine (policy_Limit 200 (some ⟨bf, 0, none⟩) 1 1 (chFs X Y Z) a b2 sp false _ (HFr.out.ext h6) (by decide) ((bsz_of_sumF _).mono (by have := HSz.out; omega)) (hg.ext (HEr.out.trans h6)) (by have := HSz.out; omega) (hgl.ext (HEr.out.trans h6))).mono ?_; rintro e w7 ⟨rfl, hbw7⟩
          have hw7 := (h6).trans hbw7
          rw [hlm]
          have s2 := (HBo.out.ext hw7).cell 2
          have s3 := (HBo.out.ext hw7).cell 3
          have s4 := (HBo.out.ext hw7).cell 4
          go_wp2_with fail
          refine (HAt2.out _).mono ?_; rintro e wZ ⟨rfl, hbZ⟩
          go_wp2_with fail
          go_ret
          exact ⟨rfl, HEr.out.trans ((hw7).trans hbZ)⟩
      · have hge : ¬ hi < life := by
          rw [decide_eq_false h1] at hPl
          exact of_decide_eq_false hPl.symm
        have hge2 : life ≤ hi := by omega
        clear hPl
        by_cases h2 : J = 2
        · have z1 : (J == 1) = false := by rw [beq_eq_false_iff_ne]; exact h1
          have z2 : (J == 2) = true := by rw [beq_iff_eq]; exact h2
          have y2 : T + wt - M < lim := HJJ.out.2 h2
          have y2b : ¬ lim ≤ T + wt - M := by omega
          clear h1 h2 HJJ
          go_wp2_with (first
            | (refine wpList_loadBG (by rfl) 34 (.tmp 11) rfl ga rfl 34 _ HBJ.out _ Tryd.underlying34 infoSt ?_))
          refine (policy_Limit 200 (some ⟨bf, 0, none⟩) 1 1 (chFs X Y Z) a b2 sp false _ (HFr.out.ext HhJ.out) (by decide) ((bsz_of_sumF _).mono (by have := HSz.out; omega)) (hg.ext (HEr.out.trans HhJ.out)) (by have := HSz.out; omega) (hgl.ext (HEr.out.trans HhJ.out))).mono ?_; rintro e w7 ⟨rfl, hbw7⟩
          have hw7 := (HhJ.out).trans hbw7
          rw [hlm]
          have s2 := (HBo.out.ext hw7).cell 2
          have s3 := (HBo.out.ext hw7).cell 3
          have s4 := (HBo.out.ext hw7).cell 4
          go_wp2_with fail
          refine (HAt2.out _).mono ?_; rintro e wZ ⟨rfl, hbZ⟩
          go_wp2_with fail
          go_ret
          exact ⟨rfl, HEr.out.trans ((hw7).trans hbZ)⟩
        · have z1 : (J == 1) = false := by rw [beq_eq_false_iff_ne]; exact h1
          have z2 : (J == 2) = false := by rw [beq_eq_false_iff_ne]; exact h2
          clear h1 h2 HJJ
          go_wp2_with (first
            | (refine wpList_loadBG (by rfl) 34 (.tmp 11) rfl ga rfl 34 _ HBJ.out _ Tryd.underlying34 infoSt ?_))
          refine (policy_OnError 200 (some ⟨bf, 0, none⟩) 1 1 (chFs X Y Z) a b2 sp false rn 20000 _ (HFr.out.ext HhJ.out) (by decide) ((bsz_of_sumF _).mono (by have := HSz.out; omega)) (hg.ext (HEr.out.trans HhJ.out)) (by have := HSz.out; omega) (hgl.ext (HEr.out.trans HhJ.out))).mono ?_; rintro e w6 ⟨rfl, hb6⟩
          have h6 := HhJ.out.trans hb6
          have HB6 := Lib.hid (HBo.out.ext h6)
          rw [hoe]
          cases oe
          · have s2 := (HBo.out.ext h6).cell 2
            have s3 := (HBo.out.ext h6).cell 3
            have s4 := (HBo.out.ext h6).cell 4
            go_wp2_with fail
            refine (HAt2.out _).mono ?_; rintro e wZ ⟨rfl, hbZ⟩
            go_wp2_with fail
            go_ret
            exact ⟨rfl, HEr.out.trans ((h6).trans hbZ)⟩
          · have y3 : T + wt - M < lim := HJ3.out rfl
            have y3b : ¬ lim ≤ T + wt - M := by omega
            go_wp2_with (first
              | (refine wpList_loadBG (by rfl) 34 (.tmp 11) rfl ga rfl 34 _ HB6.out _ Tryd.underlying34 infoSt ?_))
            refine (policy_Limit 200 (some ⟨bf, 0, none⟩) 1 1 (chFs X Y Z) a b2 sp false _ (HFr.out.ext h6) (by decide) ((bsz_of_sumF _).mono (by have := HSz.out; omega)) (hg.ext (HEr.out.trans h6)) (by have := HSz.out; omega) (hgl.ext (HEr.out.trans h6))).mono ?_; rintro e w7 ⟨rfl, hbw7⟩
            have hw7 := (h6).trans hbw7
            rw [hlm]
            have s2 := (HBo.out.ext hw7).cell 2
            have s3 := (HBo.out.ext hw7).cell 3
            have s4 := (HBo.out.ext hw7).cell 4
            go_wp2_with fail
            refine (HAt2.out _).mono ?_; rintro e wZ ⟨rfl, hbZ⟩
            go_wp2_with fail
            go_ret
            exact ⟨rfl, HEr.out.trans ((hw7).trans hbZ)⟩
end Go.Proofs.YtocniclkooiggaaDoor

namespace Go.Proofs.YtocniclkooiggaaDoor
open Go.ChangeShapes Go.WideShapes Go.RowKit Go.Deep Go.Joins
section
variable {H : Type} {enc : TypeId × Value → H} {w : World} {base : Nat} {spare : Nat → Bool} {held : Bool}
set_option maxRecDepth 100000 in
theorem c_Ca {fuel : Nat} {cs : List Value} {x : DataW H × List MemPlace} (h : DataW.trod enc Tryd.prog w base spare held fuel 37 cs = some x) :
    ∃ (x_0 : Int) (x_1 : Int) (x_2 : Int) (x_3 : Int) (x_4 : Int), cs = [.int .u16 x_0, .int .i8 x_1, .int .u16 x_2, .int .u16 x_3, .int .u16 x_4] ∧ x.1 = .agg [.lit (.int .u16 x_0), .lit (.int .i8 x_1), .lit (.int .u16 x_2), .lit (.int .u16 x_3), .lit (.int .u16 x_4)] ∧ ((Lit.int .u16 x_0).wf = true ∧ (Lit.int .i8 x_1).wf = true ∧ (Lit.int .u16 x_2).wf = true ∧ (Lit.int .u16 x_3).wf = true ∧ (Lit.int .u16 x_4).wf = true) := by
  obtain ⟨xs, n, _, rfl, hl, hlen, hf⟩ := DataW.trod_struct Tryd.underlying37 h
  rw [show Tryd.prog.cellsOf 37 = 5 from by kernel_rfl] at hl
  match cs, hl with
  | [c0, c1, c2, c3, c4], _ =>
  have hlen : xs.length = 5 := hlen
  match xs, hlen with
  | [y0, y1, y2, y3, y4], _ =>
    have g0 : DataW.trod enc Tryd.prog w base spare held n 24 (([c0, c1, c2, c3, c4].drop 0).take (Tryd.prog.cellsOf 24)) = [y0, y1, y2, y3, y4][0]? := hf 0 _ rfl
    have g1 : DataW.trod enc Tryd.prog w base spare held n 35 (([c0, c1, c2, c3, c4].drop 1).take (Tryd.prog.cellsOf 35)) = [y0, y1, y2, y3, y4][1]? := hf 1 _ rfl
    have g2 : DataW.trod enc Tryd.prog w base spare held n 24 (([c0, c1, c2, c3, c4].drop 2).take (Tryd.prog.cellsOf 24)) = [y0, y1, y2, y3, y4][2]? := hf 2 _ rfl
    have g3 : DataW.trod enc Tryd.prog w base spare held n 24 (([c0, c1, c2, c3, c4].drop 3).take (Tryd.prog.cellsOf 24)) = [y0, y1, y2, y3, y4][3]? := hf 3 _ rfl
    have g4 : DataW.trod enc Tryd.prog w base spare held n 24 (([c0, c1, c2, c3, c4].drop 4).take (Tryd.prog.cellsOf 24)) = [y0, y1, y2, y3, y4][4]? := hf 4 _ rfl
    rw [show Tryd.prog.cellsOf 24 = 1 from by kernel_rfl] at g0
    simp only [List.drop_succ_cons, List.drop_zero, List.take_succ_cons, List.take_zero, List.getElem?_cons_succ, List.getElem?_cons_zero] at g0
    obtain ⟨x_0, e0, d0, f0_0⟩ := DataW.trod_int Tryd.underlying24 g0
    simp only [List.cons.injEq, and_true] at e0
    subst e0
    rw [show Tryd.prog.cellsOf 35 = 1 from by kernel_rfl] at g1
    simp only [List.drop_succ_cons, List.drop_zero, List.take_succ_cons, List.take_zero, List.getElem?_cons_succ, List.getElem?_cons_zero] at g1
    obtain ⟨x_1, e1, d1, f1_0⟩ := DataW.trod_int Tryd.underlying35 g1
    simp only [List.cons.injEq, and_true] at e1
    subst e1
    rw [show Tryd.prog.cellsOf 24 = 1 from by kernel_rfl] at g2
    simp only [List.drop_succ_cons, List.drop_zero, List.take_succ_cons, List.take_zero, List.getElem?_cons_succ, List.getElem?_cons_zero] at g2
    obtain ⟨x_2, e2, d2, f2_0⟩ := DataW.trod_int Tryd.underlying24 g2
    simp only [List.cons.injEq, and_true] at e2
    subst e2
    rw [show Tryd.prog.cellsOf 24 = 1 from by kernel_rfl] at g3
    simp only [List.drop_succ_cons, List.drop_zero, List.take_succ_cons, List.take_zero, List.getElem?_cons_succ, List.getElem?_cons_zero] at g3
    obtain ⟨x_3, e3, d3, f3_0⟩ := DataW.trod_int Tryd.underlying24 g3
    simp only [List.cons.injEq, and_true] at e3
    subst e3
    rw [show Tryd.prog.cellsOf 24 = 1 from by kernel_rfl] at g4
    simp only [List.drop_succ_cons, List.drop_zero, List.take_succ_cons, List.take_zero, List.getElem?_cons_succ, List.getElem?_cons_zero] at g4
    obtain ⟨x_4, e4, d4, f4_0⟩ := DataW.trod_int Tryd.underlying24 g4
    simp only [List.cons.injEq, and_true] at e4
    subst e4
    refine ⟨x_0, x_1, x_2, x_3, x_4, rfl, ?_, f0_0, f1_0, f2_0, f3_0, f4_0⟩
    simp only [List.map_cons, List.map_nil, show y0.1 = _ from congrArg Prod.fst d0, show y1.1 = _ from congrArg Prod.fst d1, show y2.1 = _ from congrArg Prod.fst d2, show y3.1 = _ from congrArg Prod.fst d3, show y4.1 = _ from congrArg Prod.fst d4]
theorem i8_wf {x : Int} (h : (Lit.int .i8 x).wf = true) : -128 ≤ x ∧ x ≤ 127 := by
  simp [Lit.wf] at h
  have e1 : IntKind.i8.min = -128 := rfl
  have e2 : IntKind.i8.max = 127 := rfl
  omega
/-- A chain of caches, opened. -/
theorem open_chain {t : TypeId} {A : Option Addr} {n c : Nat} {d : DataW H} {p : List MemPlace} (ht : Tryd.prog.underlying t = some (.slice 37))
    (h : DataW.Trod enc Tryd.prog w base spare held t (.slice A n c) d p) :
    ∃ L : List Ca, Rd w 5 A n (L.flatMap caC) ∧ n ≤ c ∧ ∀ x ∈ L, x.ok := by
  obtain ⟨fuel, hf⟩ := h
  have hf' : DataW.trod enc Tryd.prog w base spare held fuel t [.slice A n c] = some (d, p) := by simpa [Value.cells] using hf
  rcases open_slice ht hf' with ⟨hcs, hx⟩ | ⟨a, len, cap, m, k, D, Pl, hcs, hb, hl, hm, hmm, hx, hi⟩
  · simp only [List.cons.injEq, Value.slice.injEq, and_true] at hcs
    obtain ⟨rfl, rfl, rfl⟩ := hcs
    exact ⟨[], Rd.none_ _ _ _, Nat.le_refl _, fun x hx => by cases hx⟩
  · simp only [List.cons.injEq, Value.slice.injEq, and_true] at hcs
    obtain ⟨rfl, rfl, rfl⟩ := hcs
    have hce : Tryd.prog.cellsOf 37 = 5 := by kernel_rfl
    rw [hce] at hi
    have hnm : n ≤ m := by rw [hmm]; split <;> omega
    haveI : Inhabited Ca := ⟨⟨0, 0, 0, 0, 0⟩⟩
    obtain ⟨F, hF⟩ := choose_lt (α := Ca) (n := m) (p := fun i f => w.cell? (a.add (i * 5)) = some (.int .u16 f.off) ∧ w.cell? (a.add (i * 5 + 1)) = some (.int .i8 f.dr) ∧ w.cell? (a.add (i * 5 + 2)) = some (.int .u16 f.ask) ∧ w.cell? (a.add (i * 5 + 3)) = some (.int .u16 f.cm) ∧ w.cell? (a.add (i * 5 + 4)) = some (.int .u16 f.st) ∧ f.ok) (fun i him => by
      obtain ⟨cs', h1, h2⟩ := hi i him
      obtain ⟨_, _, hat⟩ := World.cells?_some h1
      obtain ⟨y0, y1, y2, y3, y4, rfl, _, w0, w1, w2, w3, w4⟩ := c_Ca h2
      have g0 := hat 0 (by omega)
      have g1 := hat 1 (by omega)
      have g2 := hat 2 (by omega)
      have g3 := hat 3 (by omega)
      have g4 := hat 4 (by omega)
      rw [Go.Deep.add_add] at g0 g1 g2 g3 g4
      have v0 := u16_wf0 w0
      have v1 := i8_wf w1
      have v2 := u16_wf0 w2
      have v3 := u16_wf0 w3
      have v4 := u16_wf0 w4
      exact ⟨⟨y0, y1, y2, y3, y4⟩, by simpa using g0, by simpa using g1, by simpa using g2, by simpa using g3, by simpa using g4, v0.1, v0.2, v2.1, v2.2, v3.1, v3.2, v4.1, v4.2, v1.1, v1.2⟩)
    have hlen : ((List.range n).map F).length = n := by simp
    refine ⟨(List.range n).map F, ⟨by rw [flat_len caC_len, hlen], fun hpos => ?_⟩, hl, fun x hx => ?_⟩
    · have hn0 : 0 < n := by rw [flat_len caC_len, hlen] at hpos; omega
      obtain ⟨b, o, sp⟩ := a
      have hsp : sp = none := by simpa [Addr.add] using World.cell?_spot (hF 0 (by omega)).1
      subst hsp
      refine ⟨b, o, rfl, fun j u hj => ?_⟩
      have hjl : j < n * 5 := by
        have := (List.getElem?_eq_some_iff.1 hj).1
        rw [flat_len caC_len, hlen] at this; exact this
      have hlt : j / 5 < ((List.range n).map F).length := by rw [hlen]; omega
      obtain ⟨e0, e1, e2, e3, e4, _⟩ := hF (j / 5) (by omega)
      rw [add_plain] at e0 e1 e2 e3 e4
      have hFe : ((List.range n).map F)[j / 5] = F (j / 5) := by simp
      have hjd : j = j / 5 * 5 + j % 5 := by omega
      rw [hjd, flat_at caC_len _ _ hlt (j % 5) (by omega), hFe] at hj
      have hr : j % 5 = 0 ∨ j % 5 = 1 ∨ j % 5 = 2 ∨ j % 5 = 3 ∨ j % 5 = 4 := by omega
      rcases hr with h | h | h | h | h
      · rw [h] at hj; rw [hjd, h, ← hj]; exact e0
      · rw [h] at hj; rw [hjd, h, ← hj]; exact e1
      · rw [h] at hj; rw [hjd, h, ← hj]; exact e2
      · rw [h] at hj; rw [hjd, h, ← hj]; exact e3
      · rw [h] at hj; rw [hjd, h, ← hj]; exact e4
    · simp only [List.mem_map, List.mem_range] at hx
      obtain ⟨i, hin, rfl⟩ := hx
      exact (hF i (by omega)).2.2.2.2.2
set_option maxRecDepth 100000 in
theorem open_arr3 {v : Value} {d : DataW H} {p : List MemPlace} {r : Reach} {b0 : Nat}
    (hv : Value.okWide Tryd.prog w r b0 23 v) (h : DataW.Trod enc Tryd.prog w base spare held 23 v d p) :
    ∃ a b c : Int, v = .agg #[.int .u8 a, .int .u8 b, .int .u8 c] ∧ (Lit.int .u8 a).wf = true ∧ (Lit.int .u8 b).wf = true ∧ (Lit.int .u8 c).wf = true := by
  simp only [Value.okWide, Tryd.underlying23] at hv
  obtain ⟨cs, rfl, hsz, _⟩ := hv
  rw [show Tryd.prog.cellsOf 23 = 3 from by kernel_rfl] at hsz
  obtain ⟨fuel, hf⟩ := h
  obtain ⟨xs, m, _, hx, _, hlen, hg⟩ := DataW.trod_array Tryd.underlying23 hf
  obtain ⟨l⟩ := cs
  match l, hsz with
  | [c0, c1, c2], _ =>
    match xs, hlen with
    | [y0, y1, y2], _ =>
      have g0 := hg 0 (by omega)
      have g1 := hg 1 (by omega)
      have g2 := hg 2 (by omega)
      rw [show Tryd.prog.cellsOf 5 = 1 from by kernel_rfl] at g0 g1 g2
      simp only [Value.cells, Nat.zero_mul, List.drop_zero, List.take_succ_cons, List.take_zero, List.getElem?_cons_zero] at g0
      simp only [Value.cells, Nat.one_mul, List.drop_succ_cons, List.drop_zero, List.take_succ_cons, List.take_zero, List.getElem?_cons_succ, List.getElem?_cons_zero] at g1
      simp only [Value.cells, Nat.mul_one, List.drop_succ_cons, List.drop_zero, List.take_succ_cons, List.take_zero, List.getElem?_cons_succ, List.getElem?_cons_zero] at g2
      obtain ⟨a, e1, _, w1⟩ := DataW.trod_int Tryd.underlying5 g0
      obtain ⟨b, e2, _, w2⟩ := DataW.trod_int Tryd.underlying5 g1
      obtain ⟨c, e3, _, w3⟩ := DataW.trod_int Tryd.underlying5 g2
      simp only [List.cons.injEq, and_true] at e1 e2 e3
      subst e1; subst e2; subst e3
      exact ⟨a, b, c, rfl, w1, w2, w3⟩
end
end Go.Proofs.YtocniclkooiggaaDoor
