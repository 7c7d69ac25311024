
/- The canonical text of directives, and that it is read as the directives within their limits. No program in sight. -/
import Derived.Test.YtafmedphgmacaaaDoorNm
import Derived.Lib.ItoaNum
namespace Go.Proofs.YtafmedphgmacaaaDoor

def mkS (l : List UInt8) : ByteArray := ⟨l.toArray⟩
def decS (n : Int) : ByteArray := mkS (Lib.decDigits n.toNat)
/-- The names of the directives, in the order of the canonical text. -/
def wNS : List UInt8 := [110, 111, 45, 115, 116, 111, 114, 101]
def wNC : List UInt8 := [110, 111, 45, 99, 97, 99, 104, 101]
def wPR : List UInt8 := [112, 114, 105, 118, 97, 116, 101]
def wPU : List UInt8 := [112, 117, 98, 108, 105, 99]
def wMR : List UInt8 := [109, 117, 115, 116, 45, 114, 101, 118, 97, 108, 105, 100, 97, 116, 101]
def wOC : List UInt8 := [111, 110, 108, 121, 45, 105, 102, 45, 99, 97, 99, 104, 101, 100]
def wMA : List UInt8 := [109, 97, 120, 45, 97, 103, 101]
def wSM : List UInt8 := [115, 45, 109, 97, 120, 97, 103, 101]
def wWR : List UInt8 := [115, 116, 97, 108, 101, 45, 119, 104, 105, 108, 101, 45, 114, 101, 118, 97, 108, 105, 100, 97, 116, 101]
def wIE : List UInt8 := [115, 116, 97, 108, 101, 45, 105, 102, 45, 101, 114, 114, 111, 114]
def wMS : List UInt8 := [109, 97, 120, 45, 115, 116, 97, 108, 101]
def wMF : List UInt8 := [109, 105, 110, 45, 102, 114, 101, 115, 104]
/-- The element of a flag; that of a time. -/
def elB (b : Bool) (w : List UInt8) : List ByteArray := if b then [mkS w] else []
def elV (w : List UInt8) (n : Int) : ByteArray := mkS w ++ ⟨#[61]⟩ ++ decS n
def elT (w : List UInt8) (n : Int) : List ByteArray := if n < 0 then [] else if w = wMS ∧ n = 2147483647 then [mkS w] else [elV w n]
def elD (d : D) : List ByteArray :=
  elB d.b0 wNS ++ elB d.b1 wNC ++ elB d.b2 wPR ++ elB d.b3 wPU ++ elB d.b4 wMR ++ elB d.b5 wOC ++ elT wMA d.n0 ++ elT wSM d.n1 ++ elT wWR d.n2 ++ elT wIE d.n3 ++ elT wMS d.n4 ++ elT wMF d.n5
def fmtD (d : D) : ByteArray := joinS (elD (nmD d))

/-! A text of plain elements is split into them. -/
/-- Neither a quote nor a comma, nor a control. -/
def okB (c : UInt8) : Bool := !(c == 34) && !(c == 44) && !ctlB c && !bl c
/-- A plain element: not empty, and no other byte in it. -/
def plE (x : ByteArray) : Prop := x.data.toList ≠ [] ∧ x.data.toList.all okB = true
theorem okB_parts {c : UInt8} (h : okB c = true) : c ≠ 34 ∧ c ≠ 44 ∧ ctlB c = false ∧ bl c = false := by
  unfold okB at h
  simp only [Bool.and_eq_true, Bool.not_eq_true', beq_eq_false_iff_ne] at h
  exact ⟨h.1.1.1, h.1.1.2, h.1.2, h.2⟩
theorem run_pl : ∀ (l cur : List UInt8) (out : List ByteArray), l.all okB = true → l.foldl (spStep 44) ⟨0, cur, out⟩ = ⟨0, cur ++ l, out⟩
  | [], cur, out, _ => by simp
  | c :: l, cur, out, h => by
    rw [List.all_cons, Bool.and_eq_true] at h
    obtain ⟨h1, h2, _, _⟩ := okB_parts h.1
    rw [List.foldl_cons, sp0, if_neg h1, if_neg h2, run_pl l (cur ++ [c]) out h.2]
    simp
theorem trim_pl {x : ByteArray} (h : plE x) : trimL x.data.toList = x ∧ trimL (32 :: x.data.toList) = x := by
  obtain ⟨h0, h1⟩ := h
  have hmem : ∀ c ∈ x.data.toList, bl c = false := fun c hc => (okB_parts (List.all_eq_true.1 h1 c hc)).2.2.2
  have hs : Lib.trimS x.data.toList blank = x.data.toList :=
    trimL_self _ (fun c hc => hmem c (List.mem_of_mem_head? (by rw [hc]; rfl))) (fun c hc => hmem c (List.mem_of_mem_getLast? (by rw [hc]; rfl)))
  refine ⟨?_, ?_⟩
  · unfold trimL; rw [hs]
  · unfold trimL; rw [trimL_cons 32 _ (by decide), hs]
/-- The elements behind the first one, each behind a comma and a blank. -/
def tailL (l : List ByteArray) : List UInt8 := l.flatMap fun x => 44 :: 32 :: x.data.toList
theorem join_list (x : ByteArray) (l : List ByteArray) : (joinS (x :: l)).data.toList = x.data.toList ++ tailL l := by
  unfold joinS
  rw [List.map_cons, Lib.join_cons]
  show x.data.toList ++ Lib.joinTail _ _ = _
  congr 1
  induction l with
  | nil => rfl
  | cons y l ih => 
    rw [List.map_cons]
    show [44, 32] ++ y.data.toList ++ Lib.joinTail _ _ = _
    rw [ih]
    simp [tailL]
theorem run_tail : ∀ (l : List ByteArray) (cur : List UInt8) (out : List ByteArray), (∀ x ∈ l, plE x) →
    spEnd ((tailL l).foldl (spStep 44) ⟨0, cur, out⟩) = some (out ++ trimL cur :: l)
  | [], cur, out, _ => rfl
  | x :: l, cur, out, h => by
    have hx := h x (List.mem_cons_self ..)
    have ht : tailL (x :: l) = 44 :: 32 :: (x.data.toList ++ tailL l) := by simp [tailL]
    rw [ht, List.foldl_cons, sp0, if_neg (by decide), if_pos rfl, List.foldl_cons, sp0, if_neg (by decide), if_neg (by decide), List.foldl_append, run_pl _ _ _ hx.2, run_tail l _ _ fun y hy => h y (List.mem_cons_of_mem _ hy)]
    show some ((out ++ [trimL cur]) ++ trimL (32 :: x.data.toList) :: l) = _
    rw [(trim_pl hx).2]
    simp
theorem ctl_join (x : ByteArray) (l : List ByteArray) (h : ∀ y ∈ x :: l, plE y) : ctlS (joinS (x :: l)) = false := by
  unfold ctlS
  rw [join_list, List.any_append, Bool.or_eq_false_iff]
  have hp : ∀ y, plE y → y.data.toList.any ctlB = false := fun y hy => by
    rw [List.any_eq_false]
    intro c hc
    rw [(okB_parts (List.all_eq_true.1 hy.2 c hc)).2.2.1]; decide
  refine ⟨hp x (h x (List.mem_cons_self ..)), ?_⟩
  unfold tailL
  rw [List.any_flatMap, List.any_eq_false]
  intro y hy
  rw [List.any_cons, List.any_cons, hp y (h y (List.mem_cons_of_mem _ hy))]
  decide
theorem parts_join {l : List ByteArray} (h : ∀ y ∈ l, plE y) (hne : l ≠ []) : partsS (joinS l) 44 = some l := by
  cases l with
  | nil => exact absurd rfl hne
  | cons x l =>
    rw [parts_fold, ctl_join x l h, if_neg (by decide)]
    unfold spRun
    rw [join_list, List.foldl_append, run_pl _ _ _ (h x (List.mem_cons_self ..)).2, run_tail l _ _ fun y hy => h y (List.mem_cons_of_mem _ hy)]
    rw [List.nil_append, List.nil_append, (trim_pl (h x (List.mem_cons_self ..))).1]
theorem items_join {l : List ByteArray} (h : ∀ y ∈ l, plE y) (hne : l ≠ []) : itemsS (joinS l) = l := by
  unfold itemsS
  rw [parts_join h hne]
  show l.filter full = l
  rw [List.filter_eq_self]
  intro x hx
  have := (h x hx).1
  unfold full
  cases hx2 : x.data.toList with
  | nil => exact absurd hx2 this
  | cons c r =>
    have hz : x.size = x.data.toList.length := by simp
    rw [hx2, List.length_cons] at hz
    exact decide_eq_true (by omega)
theorem dir_join {l : List ByteArray} (h : ∀ y ∈ l, plE y) : dirS [joinS l] = l.foldl stepD noneD := by
  show stepV noneD (joinS l) = _
  by_cases hne : l = []
  · subst hne
    unfold stepV
    rw [show (partsS (joinS []) 44).isSome = true by decide +kernel, show itemsS (joinS []) = [] by decide +kernel]; rfl
  · unfold stepV
    rw [parts_join h hne, items_join h hne]; rfl

/-! Digits. -/
theorem dec_digit {k : Nat} (h : k < 10) : digB (UInt8.ofNat (48 + k)) = true ∧ ((UInt8.ofNat (48 + k)).toNat : Int) - 48 = k ∧ okB (UInt8.ofNat (48 + k)) = true ∧ UInt8.ofNat (48 + k) ≠ 61 := by
  have : k = 0 ∨ k = 1 ∨ k = 2 ∨ k = 3 ∨ k = 4 ∨ k = 5 ∨ k = 6 ∨ k = 7 ∨ k = 8 ∨ k = 9 := by omega
  rcases this with h | h | h | h | h | h | h | h | h | h <;> subst h <;> decide
theorem dec_small {u : Nat} (h : u < 10) : Lib.decDigits u = [UInt8.ofNat (48 + u)] := by rw [Lib.decDigits, dif_pos h]
theorem dec_big {u : Nat} (h : ¬ u < 10) : Lib.decDigits u = Lib.decDigits (u / 10) ++ [UInt8.ofNat (48 + u % 10)] := by rw [Lib.decDigits, dif_neg h]
theorem dec_all : ∀ (n u : Nat), u ≤ n → (Lib.decDigits u).all digB = true ∧ (Lib.decDigits u).all okB = true ∧ Lib.decDigits u ≠ []
  | n, u, hn => by
    by_cases h : u < 10
    · rw [dec_small h]
      obtain ⟨a, _, b, _⟩ := dec_digit h
      refine ⟨by rw [List.all_cons, a]; rfl, by rw [List.all_cons, b]; rfl, by simp⟩
    · rw [dec_big h]
      obtain ⟨a, _, b, _⟩ := dec_digit (show u % 10 < 10 by omega)
      match n, hn with
      | 0, hn => omega
      | n + 1, hn =>
        obtain ⟨c, d, _⟩ := dec_all n (u / 10) (by omega)
        refine ⟨by rw [List.all_append, c, List.all_cons, a]; rfl, by rw [List.all_append, d, List.all_cons, b]; rfl, by simp⟩
theorem num_dec : ∀ (n u : Nat), u ≤ n → (u : Int) ≤ 2147483647 → numV (Lib.decDigits u) = u
  | n, u, hn, hu => by
    by_cases h : u < 10
    · rw [dec_small h]
      obtain ⟨_, a, _, _⟩ := dec_digit h
      unfold numV
      rw [List.foldl_cons, List.foldl_nil, a]
      omega
    · rw [dec_big h]
      obtain ⟨_, a, _, _⟩ := dec_digit (show u % 10 < 10 by omega)
      match n, hn with
      | 0, hn => omega
      | n + 1, hn =>
        have ih := num_dec n (u / 10) (by omega) (by omega)
        unfold numV at *
        rw [List.foldl_append, ih, List.foldl_cons, List.foldl_nil, a]
        omega
theorem head_dec (u : Nat) : (Lib.decDigits u).head? ≠ some 34 := by
  intro h
  have hm := List.mem_of_mem_head? (by rw [h]; rfl : (34 : UInt8) ∈ (Lib.decDigits u).head?)
  have := List.all_eq_true.1 (dec_all u u (Nat.le_refl _)).1 34 hm
  exact absurd this (by decide)
theorem time_dec {n : Int} (h0 : 0 ≤ n) (h1 : n ≤ 2147483647) (bad miss : Int) : timeV (decS n) true bad miss = n := by
  have hu : n.toNat ≤ n.toNat := Nat.le_refl _
  obtain ⟨a, b, c⟩ := dec_all _ _ hu
  have hq : isQ (decS n) = false := by
    unfold isQ
    have := head_dec n.toNat
    show ((mkS (Lib.decDigits n.toNat)).data.toList.head? == some 34) = false
    simpa [mkS] using this
  obtain ⟨e1, e2⟩ := okQ_plain hq
  have hl : (decS n).data.toList = Lib.decDigits n.toNat := by simp [decS, mkS]
  have hk : okN (decS n) = true := by
    unfold okN
    rw [hl, a]
    have : 0 < (decS n).size := by
      have h2 : (decS n).size = (Lib.decDigits n.toNat).length := by simp [decS, mkS, ByteArray.size]
      rw [h2]
      exact List.length_pos_iff.2 c
    simp [this]
  unfold timeV
  rw [if_pos rfl, e2, if_pos hk, e1]
  unfold numR
  rw [hl, if_pos a, num_dec _ _ hu (by omega)]
  omega
theorem idx_eq (r : List UInt8) : ∀ w : List UInt8, w.all (fun c => c != 61) = true → Lib.index (w ++ 61 :: r) [61] = (w.length : Int)
  | [], _ => by simp [Lib.index, List.isPrefixOf]
  | c :: w, h => by
    rw [List.all_cons, Bool.and_eq_true] at h
    have hc : c ≠ 61 := by simpa using h.1
    have ih := idx_eq r w h.2
    rw [List.cons_append, Lib.index, if_neg (by simp [List.isPrefixOf]; exact fun e => hc e.symm), ih, if_neg (by simp)]
    simp
theorem cut_dec {w : List UInt8} (hw : w.all (fun c => c != 61) = true) (n : Int) : eqName (elV w n) = mkS w ∧ argE (elV w n) = decS n ∧ thE (elV w n) = true := by
  have hl : (elV w n).data.toList = w ++ 61 :: Lib.decDigits n.toNat := by
    unfold elV
    rw [data_append, data_append]
    simp [mkS, decS]
  have hc : Lib.cut (w ++ 61 :: Lib.decDigits n.toNat) [61] = (w, Lib.decDigits n.toNat, true) := by
    unfold Lib.cut
    rw [idx_eq _ w hw, if_pos (by omega)]
    simp
  unfold eqName argE thE
  rw [hl, hc]
  exact ⟨rfl, rfl, rfl⟩
theorem step_b0 (d : D) : stepD d (mkS wNS) = { d with b0 := true } := by unfold stepD; rw [show kindE (lowS (eqName (mkS wNS))) = 0 by decide +kernel]; rfl
theorem step_b1 (d : D) : stepD d (mkS wNC) = { d with b1 := true } := by unfold stepD; rw [show kindE (lowS (eqName (mkS wNC))) = 1 by decide +kernel]; rfl
theorem step_b2 (d : D) : stepD d (mkS wPR) = { d with b2 := true } := by unfold stepD; rw [show kindE (lowS (eqName (mkS wPR))) = 2 by decide +kernel]; rfl
theorem step_b3 (d : D) : stepD d (mkS wPU) = { d with b3 := true } := by unfold stepD; rw [show kindE (lowS (eqName (mkS wPU))) = 3 by decide +kernel]; rfl
theorem step_b4 (d : D) : stepD d (mkS wMR) = { d with b4 := true } := by unfold stepD; rw [show kindE (lowS (eqName (mkS wMR))) = 4 by decide +kernel]; rfl
theorem step_b5 (d : D) : stepD d (mkS wOC) = { d with b5 := true } := by unfold stepD; rw [show kindE (lowS (eqName (mkS wOC))) = 6 by decide +kernel]; rfl
section
variable (d : D) {n : Int} (h0 : 0 ≤ n) (h1 : n ≤ 2147483647)
  include h0 h1
theorem step_n0 : stepD d (elV wMA n) = { d with n0 := lst d.n0 n } := by
  obtain ⟨a, b, c⟩ := cut_dec (w := wMA) (by decide) n
  unfold stepD; rw [a, b, c, show kindE (lowS (mkS wMA)) = 7 by decide +kernel, time_dec h0 h1]; rfl
theorem step_n1 : stepD d (elV wSM n) = { d with n1 := lst d.n1 n } := by
  obtain ⟨a, b, c⟩ := cut_dec (w := wSM) (by decide) n
  unfold stepD; rw [a, b, c, show kindE (lowS (mkS wSM)) = 8 by decide +kernel, time_dec h0 h1]; rfl
theorem step_n2 : stepD d (elV wWR n) = { d with n2 := lst d.n2 n } := by
  obtain ⟨a, b, c⟩ := cut_dec (w := wWR) (by decide) n
  unfold stepD; rw [a, b, c, show kindE (lowS (mkS wWR)) = 9 by decide +kernel, time_dec h0 h1]; rfl
theorem step_n3 : stepD d (elV wIE n) = { d with n3 := lst d.n3 n } := by
  obtain ⟨a, b, c⟩ := cut_dec (w := wIE) (by decide) n
  unfold stepD; rw [a, b, c, show kindE (lowS (mkS wIE)) = 10 by decide +kernel, time_dec h0 h1]; rfl
theorem step_n4 : stepD d (elV wMS n) = { d with n4 := lst d.n4 n } := by
  obtain ⟨a, b, c⟩ := cut_dec (w := wMS) (by decide) n
  unfold stepD; rw [a, b, c, show kindE (lowS (mkS wMS)) = 11 by decide +kernel, time_dec h0 h1, time_dec h0 h1]; rfl
theorem step_n5 : stepD d (elV wMF n) = { d with n5 := max d.n5 n } := by
  obtain ⟨a, b, c⟩ := cut_dec (w := wMF) (by decide) n
  unfold stepD; rw [a, b, c, show kindE (lowS (mkS wMF)) = 12 by decide +kernel, time_dec h0 h1, time_dec h0 h1, time_dec h0 h1]; rfl
end
theorem step_n4m (d : D) : stepD d (mkS wMS) = { d with n4 := lst d.n4 2147483647 } := by
  unfold stepD
  rw [show kindE (lowS (eqName (mkS wMS))) = 11 by decide +kernel, show timeV (argE (mkS wMS)) (thE (mkS wMS)) 0 2147483647 = 2147483647 by decide +kernel]; rfl
theorem lst_none {n : Int} (h : 0 ≤ n) : lst (-1) n = n := by unfold lst; rw [if_pos (by decide)]
theorem fold_T (w : List UInt8) (hw : w ≠ wMS) (n : Int) (d : D) : (elT w n).foldl stepD d = if n < 0 then d else stepD d (elV w n) := by
  unfold elT
  split
  · rfl
  · rw [if_neg (fun e => hw e.1)]; rfl
theorem fold_B (b : Bool) (w : List UInt8) (d : D) : (elB b w).foldl stepD d = if b then stepD d (mkS w) else d := by
  unfold elB; cases b <;> rfl
/-- The elements of directives within their limits, read one after the other. -/
theorem fold_el {d : D} (h : nmD d = d) : (elD d).foldl stepD noneD = d := by
  have hb : ∀ n : Int, nmT n = n → -1 ≤ n ∧ n ≤ 2147483647 := fun n h => by unfold nmT at h; omega
  obtain ⟨b0, b1, b2, b3, b4, b5, n0, n1, n2, n3, n4, n5⟩ := d
  unfold nmD at h
  injection h with _ _ _ _ _ _ h0 h1 h2 h3 h4 h5
  replace h0 := hb _ h0
  replace h1 := hb _ h1
  replace h2 := hb _ h2
  replace h3 := hb _ h3
  replace h4 := hb _ h4
  replace h5 := hb _ h5
  simp only at h0 h1 h2 h3 h4 h5
  unfold elD
  simp only [List.foldl_append]
  have e0 : (elB b0 wNS).foldl stepD noneD = ⟨b0, false, false, false, false, false, -1, -1, -1, -1, -1, -1⟩ := by
    rw [fold_B, step_b0]; cases b0 <;> rfl
  rw [e0]
  have e1 : (elB b1 wNC).foldl stepD ⟨b0, false, false, false, false, false, -1, -1, -1, -1, -1, -1⟩ = ⟨b0, b1, false, false, false, false, -1, -1, -1, -1, -1, -1⟩ := by
    rw [fold_B, step_b1]; cases b1 <;> rfl
  rw [e1]
  have e2 : (elB b2 wPR).foldl stepD ⟨b0, b1, false, false, false, false, -1, -1, -1, -1, -1, -1⟩ = ⟨b0, b1, b2, false, false, false, -1, -1, -1, -1, -1, -1⟩ := by
    rw [fold_B, step_b2]; cases b2 <;> rfl
  rw [e2]
  have e3 : (elB b3 wPU).foldl stepD ⟨b0, b1, b2, false, false, false, -1, -1, -1, -1, -1, -1⟩ = ⟨b0, b1, b2, b3, false, false, -1, -1, -1, -1, -1, -1⟩ := by
    rw [fold_B, step_b3]; cases b3 <;> rfl
  rw [e3]
  have e4 : (elB b4 wMR).foldl stepD ⟨b0, b1, b2, b3, false, false, -1, -1, -1, -1, -1, -1⟩ = ⟨b0, b1, b2, b3, b4, false, -1, -1, -1, -1, -1, -1⟩ := by
    rw [fold_B, step_b4]; cases b4 <;> rfl
  rw [e4]
  have e5 : (elB b5 wOC).foldl stepD ⟨b0, b1, b2, b3, b4, false, -1, -1, -1, -1, -1, -1⟩ = ⟨b0, b1, b2, b3, b4, b5, -1, -1, -1, -1, -1, -1⟩ := by
    rw [fold_B, step_b5]; cases b5 <;> rfl
  rw [e5]
  have f0 : (elT wMA n0).foldl stepD ⟨b0, b1, b2, b3, b4, b5, -1, -1, -1, -1, -1, -1⟩ = ⟨b0, b1, b2, b3, b4, b5, n0, -1, -1, -1, -1, -1⟩ := by
    rw [fold_T _ (by decide)]
    split
    · rw [show n0 = -1 by omega]
    · rw [step_n0 _ (by omega) (by omega), lst_none (by omega)]
  rw [f0]
  have f1 : (elT wSM n1).foldl stepD ⟨b0, b1, b2, b3, b4, b5, n0, -1, -1, -1, -1, -1⟩ = ⟨b0, b1, b2, b3, b4, b5, n0, n1, -1, -1, -1, -1⟩ := by
    rw [fold_T _ (by decide)]
    split
    · rw [show n1 = -1 by omega]
    · rw [step_n1 _ (by omega) (by omega), lst_none (by omega)]
  rw [f1]
  have f2 : (elT wWR n2).foldl stepD ⟨b0, b1, b2, b3, b4, b5, n0, n1, -1, -1, -1, -1⟩ = ⟨b0, b1, b2, b3, b4, b5, n0, n1, n2, -1, -1, -1⟩ := by
    rw [fold_T _ (by decide)]
    split
    · rw [show n2 = -1 by omega]
    · rw [step_n2 _ (by omega) (by omega), lst_none (by omega)]
  rw [f2]
  have f3 : (elT wIE n3).foldl stepD ⟨b0, b1, b2, b3, b4, b5, n0, n1, n2, -1, -1, -1⟩ = ⟨b0, b1, b2, b3, b4, b5, n0, n1, n2, n3, -1, -1⟩ := by
    rw [fold_T _ (by decide)]
    split
    · rw [show n3 = -1 by omega]
    · rw [step_n3 _ (by omega) (by omega), lst_none (by omega)]
  rw [f3]
  have f4 : (elT wMS n4).foldl stepD ⟨b0, b1, b2, b3, b4, b5, n0, n1, n2, n3, -1, -1⟩ = ⟨b0, b1, b2, b3, b4, b5, n0, n1, n2, n3, n4, -1⟩ := by
    unfold elT
    split
    · rw [show n4 = -1 by omega]; rfl
    · split
      · rename_i hm
        show stepD _ _ = _
        rw [step_n4m, lst_none (by omega), hm.2]
      · show stepD _ _ = _
        rw [step_n4 _ (by omega) (by omega), lst_none (by omega)]
  rw [f4]
  rw [fold_T _ (by decide)]
  split
  · rw [show n5 = -1 by omega]
  · rw [step_n5 _ (by omega) (by omega), show max (-1) n5 = n5 by omega]
theorem nmT_nm (n : Int) : nmT (nmT n) = nmT n := by unfold nmT; omega
theorem nmD_nm (d : D) : nmD (nmD d) = nmD d := by unfold nmD; simp only [nmT_nm]
theorem pl_B {b : Bool} {w : List UInt8} (hw : w ≠ [] ∧ w.all okB = true) : ∀ x ∈ elB b w, plE x := by
  intro x hx
  unfold elB at hx
  split at hx
  · rw [List.mem_singleton] at hx; subst hx; exact ⟨by simpa [mkS] using hw.1, by simpa [mkS] using hw.2⟩
  · cases hx
theorem pl_T {w : List UInt8} (n : Int) (hw : w ≠ [] ∧ w.all okB = true) : ∀ x ∈ elT w n, plE x := by
  intro x hx
  unfold elT at hx
  split at hx
  · cases hx
  · split at hx
    · rw [List.mem_singleton] at hx; subst hx; exact ⟨by simpa [mkS] using hw.1, by simpa [mkS] using hw.2⟩
    · rw [List.mem_singleton] at hx; subst hx
      have hl : (elV w n).data.toList = w ++ 61 :: Lib.decDigits n.toNat := by
        unfold elV; rw [data_append, data_append]; simp [mkS, decS]
      unfold plE
      rw [hl]
      refine ⟨by simp, ?_⟩
      rw [List.all_append, List.all_cons, hw.2, (dec_all _ _ (Nat.le_refl _)).2.1]
      decide
theorem pl_D (d : D) : ∀ x ∈ elD d, plE x := by
  intro x hx
  unfold elD at hx
  simp only [List.mem_append] at hx
  rcases hx with ((((((((((h | h) | h) | h) | h) | h) | h) | h) | h) | h) | h) | h
  · exact pl_B (by decide) x h
  · exact pl_B (by decide) x h
  · exact pl_B (by decide) x h
  · exact pl_B (by decide) x h
  · exact pl_B (by decide) x h
  · exact pl_B (by decide) x h
  · exact pl_T _ (by decide) x h
  · exact pl_T _ (by decide) x h
  · exact pl_T _ (by decide) x h
  · exact pl_T _ (by decide) x h
  · exact pl_T _ (by decide) x h
  · exact pl_T _ (by decide) x h
/-- The canonical text is read as the directives within their limits; and written again. -/
theorem fmt_back (d : D) : dirS [fmtD d] = nmD d := by
  unfold fmtD
  rw [dir_join (pl_D _), fold_el (nmD_nm d)]
theorem fmt_again (d : D) : fmtD (nmD d) = fmtD d := by unfold fmtD; rw [nmD_nm]
end Go.Proofs.YtafmedphgmacaaaDoor
