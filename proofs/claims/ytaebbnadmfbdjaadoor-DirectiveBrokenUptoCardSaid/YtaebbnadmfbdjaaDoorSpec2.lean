
/- What the functions of the packages field and quaysideref02 compute, in plain words on lists of byte strings. No program in sight, no condition. -/
import Derived.Test.YtaebbnadmfbdjaaDoorBase
import Derived.Lib.Join
set_option linter.unusedSimpArgs false
set_option linter.unusedVariables false
namespace Go.Proofs.YtaebbnadmfbdjaaDoor

def lowC (c : UInt8) : UInt8 := if 65 ≤ c && c ≤ 90 then c + 32 else c
def lowL (l : List UInt8) : List UInt8 := l.map lowC
/-- A string with A to Z in lower case. -/
def lowS (s : ByteArray) : ByteArray := ⟨(lowL s.data.toList).toArray⟩
def lowAt (s : ByteArray) (k j : Nat) : Int := if j < k then (lowC (s.data.toList.getD j 0)).toNat else (s.data.toList.getD j 0).toNat

theorem lowS_size (s : ByteArray) : (lowS s).size = s.size := by
  show (s.data.toList.map lowC).toArray.size = s.data.size
  simp

theorem lowAt_zero (s : ByteArray) (j : Nat) (h : j < s.data.toList.length) : lowAt s 0 j = (s.data.toList[j].toNat : Int) := by
  simp [lowAt, List.getD_eq_getElem?_getD, List.getElem?_eq_getElem h]
theorem lowAt_self (s : ByteArray) (k : Nat) : lowAt s k k = (s.data.toList.getD k 0).toNat := by simp [lowAt]
theorem lowAt_same (s : ByteArray) (k j : Nat) (h : j ≠ k) : lowAt s (k + 1) j = lowAt s k j := by
  unfold lowAt
  by_cases h1 : j < k
  · rw [if_pos h1, if_pos (by omega)]
  · rw [if_neg h1, if_neg (by omega)]
theorem lowAt_next (s : ByteArray) (k : Nat) : lowAt s (k + 1) k = (lowC (s.data.toList.getD k 0)).toNat := by simp [lowAt]
theorem lowAt_end (s : ByteArray) (k j : Nat) (h : j < k) (hj : j < (lowL s.data.toList).length) : lowAt s k j = ((lowL s.data.toList)[j].toNat : Int) := by
  have hj' : j < s.data.toList.length := by simpa [lowL] using hj
  rw [lowAt, if_pos h, List.getD_eq_getElem?_getD, List.getElem?_eq_getElem hj']
  simp [lowL]
theorem lowC_yes (c : UInt8) (h1 : (65 : Int) ≤ c.toNat) (h2 : (c.toNat : Int) ≤ 90) : ((lowC c).toNat : Int) = c.toNat + 32 := by
  have h : (65 ≤ c && c ≤ 90) = true := by simp [UInt8.le_iff_toNat_le]; omega
  rw [lowC, if_pos h, UInt8.toNat_add]
  simp
  omega
theorem lowC_up (c : UInt8) (h1 : (65 : Int) ≤ c.toNat) (h2 : (c.toNat : Int) ≤ 90) : c + 32 = lowC c := by
  have h : (65 ≤ c && c ≤ 90) = true := by simp [UInt8.le_iff_toNat_le]; omega
  rw [lowC, if_pos h]
theorem lowC_no (c : UInt8) (h : ¬ ((65 : Int) ≤ c.toNat ∧ (c.toNat : Int) ≤ 90)) : lowC c = c := by
  have h : ¬ (65 ≤ c && c ≤ 90) = true := by simp [UInt8.le_iff_toNat_le]; omega
  rw [lowC, if_neg h]

theorem bytes_ext {a b : ByteArray} (h : a.data.toList = b.data.toList) : a = b := by
  obtain ⟨⟨a⟩⟩ := a; obtain ⟨⟨b⟩⟩ := b; simp at h; subst h; rfl
theorem eqS_iff {a b : ByteArray} : (a.toList == b.toList) = true ↔ a = b := by
  rw [beq_iff_eq, ByteArray.toList_eq, ByteArray.toList_eq]
  exact ⟨bytes_ext, fun h => by rw [h]⟩
theorem data_append (a b : ByteArray) : (a ++ b).data.toList = a.data.toList ++ b.data.toList := by simp
/-- The first k bytes in lower case, as a string. -/
def lowTo (s : ByteArray) (k : Nat) : ByteArray := ⟨(lowL (s.data.toList.take k)).toArray⟩
theorem lowTo_size (s : ByteArray) (k : Nat) : (lowTo s k).size ≤ k := by
  show (lowL (s.data.toList.take k)).toArray.size ≤ k
  simp [lowL]; omega
theorem lowTo_zero (s : ByteArray) : lowTo s 0 = ⟨#[]⟩ := rfl
theorem lowTo_end (s : ByteArray) : lowTo s s.size = lowS s := by
  unfold lowTo lowS
  rw [List.take_of_length_le (by simp)]
theorem lowTo_step (s : ByteArray) (k : Nat) (h : k < s.size) : lowTo s k ++ ⟨#[lowC s[k]]⟩ = lowTo s (k + 1) := by
  apply bytes_ext
  rw [data_append]
  show lowL (s.data.toList.take k) ++ [lowC s[k]] = lowL (s.data.toList.take (k + 1))
  rw [List.take_succ_eq_append_getElem (show k < s.data.toList.length from h)]
  simp only [lowL, List.map_append]
  rfl

/-- A pair of strings: a field's name and its value. -/
abbrev Fd := ByteArray × ByteArray
/-- Is a field one of a name? -/
def isN (name : ByteArray) (f : Fd) : Bool := (lowS f.1).toList == (lowS name).toList
/-- The values of a name. -/
def allS (fs : List Fd) (name : ByteArray) : List ByteArray := (fs.filter (isN name)).map (·.2)

theorem take_step {α : Type} (l : List α) (k : Nat) (h : k < l.length) : l.take (k + 1) = l.take k ++ [l[k]] := by
  rw [List.take_succ_eq_append_getElem h]
theorem fm_yes {α β : Type} (p : α → Bool) (g : α → β) {l : List α} {k : Nat} (h : k < l.length) (hy : p l[k] = true) : ((l.take (k + 1)).filter p).map g = ((l.take k).filter p).map g ++ [g l[k]] := by
  rw [take_step l k h, List.filter_append, List.map_append, List.filter_cons, if_pos hy]; rfl
theorem fm_no {α β : Type} (p : α → Bool) (g : α → β) {l : List α} {k : Nat} (h : k < l.length) (hy : p l[k] = false) : ((l.take (k + 1)).filter p).map g = ((l.take k).filter p).map g := by
  rw [take_step l k h, List.filter_append, List.map_append, List.filter_cons, if_neg (by simp [hy])]; simp
theorem allS_yes {fs : List Fd} {name : ByteArray} {k : Nat} (h : k < fs.length) (hy : isN name fs[k] = true) : allS (fs.take (k + 1)) name = allS (fs.take k) name ++ [fs[k].2] := fm_yes _ _ h hy
theorem allS_no {fs : List Fd} {name : ByteArray} {k : Nat} (h : k < fs.length) (hy : isN name fs[k] = false) : allS (fs.take (k + 1)) name = allS (fs.take k) name := fm_no _ _ h hy
theorem allS_len (fs : List Fd) (name : ByteArray) (k : Nat) : (allS (fs.take k) name).length ≤ k := by
  unfold allS
  rw [List.length_map]
  exact Nat.le_trans (List.length_filter_le _ _) (by simp; omega)

/-- The bytes of a list of fields. -/
def sumF (fs : List Fd) : Nat := (fs.map fun f => f.1.size + f.2.size).sum
theorem sumF_step {fs : List Fd} {k : Nat} (h : k < fs.length) : sumF (fs.take (k + 1)) = sumF (fs.take k) + (fs[k].1.size + fs[k].2.size) := by
  rw [take_step fs k h, sumF, List.map_append, List.sum_append]; simp [sumF]
/-- All strings of a list of fields have at most B bytes. -/
def Bsz (B : Nat) (fs : List Fd) : Prop := ∀ f ∈ fs, f.1.size ≤ B ∧ f.2.size ≤ B
theorem Bsz.take {B : Nat} {fs : List Fd} (h : Bsz B fs) (k : Nat) : Bsz B (fs.take k) := fun f hf => h f (List.mem_of_mem_take hf)
theorem Bsz.at_ {B : Nat} {fs : List Fd} (h : Bsz B fs) {k : Nat} (hk : k < fs.length) : fs[k].1.size ≤ B ∧ fs[k].2.size ≤ B := h _ (List.getElem_mem hk)
theorem Bsz.mono {B B' : Nat} {fs : List Fd} (h : Bsz B fs) (hb : B ≤ B') : Bsz B' fs := fun f hf => ⟨Nat.le_trans (h f hf).1 hb, Nat.le_trans (h f hf).2 hb⟩
theorem sumF_le {B : Nat} {fs : List Fd} (h : Bsz B fs) : sumF fs ≤ fs.length * (2 * B) := by
  induction fs with
  | nil => simp [sumF]
  | cons x l ih =>
    have h1 := ih fun f hf => h f (List.mem_cons_of_mem _ hf)
    have h2 := h x (List.mem_cons_self ..)
    simp only [sumF, List.map_cons, List.sum_cons, List.length_cons] at *
    rw [Nat.add_mul]; omega
theorem sumF_lt {B n : Nat} {fs : List Fd} (h : Bsz B fs) (hn : fs.length ≤ n) : sumF fs ≤ n * (2 * B) :=
  Nat.le_trans (sumF_le h) (Nat.mul_le_mul_right _ hn)
def smallS (fs : List Fd) : Bool := decide (fs.length ≤ 70) && decide (sumF fs ≤ 6000)

theorem take_eq_step {α : Type} {xs ys : List α} {k : Nat} (h1 : k < xs.length) (h2 : k < ys.length) (h : xs.take k = ys.take k) (he : xs[k] = ys[k]) : xs.take (k + 1) = ys.take (k + 1) := by
  rw [take_step xs k h1, take_step ys k h2, h, he]
theorem ne_of_at {α : Type} {xs ys : List α} {k : Nat} (h1 : k < xs.length) (h2 : k < ys.length) (he : xs[k] ≠ ys[k]) : xs ≠ ys := by
  intro h; subst h; exact he rfl

/-- Strings joined by a comma and a blank. -/
def joinS (l : List ByteArray) : ByteArray := ⟨(Lib.join (l.map (·.data.toList)) [44, 32]).toArray⟩
def totS (l : List ByteArray) : Nat := (l.map (·.size)).sum
theorem joinL_len (l : List ByteArray) : (Lib.join (l.map (·.data.toList)) [44, 32]).length ≤ totS l + 2 * l.length := by
  cases l with
  | nil => simp [Lib.join_nil]
  | cons x r =>
    simp only [List.map_cons]
    rw [Lib.join_length]
    have : Lib.lens (x.data.toList :: r.map (·.data.toList)) = totS (x :: r) := by
      simp only [Lib.lens, totS, List.map_cons, List.map_map]
      rfl
    rw [this]
    simp; omega
theorem joinS_size (l : List ByteArray) : (joinS l).size ≤ totS l + 2 * l.length := by
  have := joinL_len l
  show (Lib.join (l.map (·.data.toList)) [44, 32]).toArray.size ≤ _
  simpa using this
theorem joinS_nil : joinS [] = ⟨#[]⟩ := rfl
theorem joinS_one (x : ByteArray) : joinS [x] = x := by
  apply bytes_ext; simp [joinS, Lib.join_one]
theorem joinS_snoc (l : List ByteArray) (x : ByteArray) (h : l ≠ []) : joinS (l ++ [x]) = (joinS l ++ ⟨#[44, 32]⟩) ++ x := by
  cases l with
  | nil => exact absurd rfl h
  | cons y r =>
    apply bytes_ext
    rw [data_append, data_append]
    simp [joinS, Lib.join_cons, Lib.joinTail]
theorem totS_take (l : List ByteArray) (k : Nat) : totS (l.take k) ≤ totS l := by
  induction l generalizing k with
  | nil => simp
  | cons x l ih =>
    cases k with
    | zero => simp [totS]
    | succ k => have := ih k; simp only [totS, List.take_succ_cons, List.map_cons, List.sum_cons] at *; omega
theorem totS_at {l : List ByteArray} {k : Nat} (h : k < l.length) : totS (l.take k) + l[k].size ≤ totS l := by
  have h1 := totS_take l (k + 1)
  rw [take_step l k h] at h1
  simp only [totS, List.map_append, List.sum_append, List.map_cons, List.map_nil, List.sum_cons, List.sum_nil] at *
  omega
theorem joinS_zero {l : List ByteArray} (h : 0 < l.length) : joinS (l.take (0 + 1)) = l[0] := by
  rw [take_step l 0 h]; simp [joinS_one]
theorem joinS_succ {l : List ByteArray} {k : Nat} (hk : 0 < k) (h : k < l.length) : joinS (l.take (k + 1)) = (joinS (l.take k) ++ ⟨#[44, 32]⟩) ++ l[k] := by
  rw [take_step l k h, joinS_snoc]
  intro he
  have := congrArg List.length he
  rw [List.length_take, List.length_nil] at this
  omega
theorem totS_all (fs : List Fd) (name : ByteArray) : totS (allS fs name) + 2 * (allS fs name).length ≤ sumF fs + 2 * fs.length := by
  induction fs with
  | nil => simp [allS, totS, sumF]
  | cons x l ih =>
    by_cases hy : isN name x = true
    · simp only [allS, totS, sumF, List.filter_cons, hy, if_true, List.map_cons, List.sum_cons, List.length_cons] at *; omega
    · simp only [allS, totS, sumF, List.filter_cons, hy, List.map_cons, List.sum_cons, List.length_cons] at *
      simp only [Bool.false_eq_true, if_false] at *
      omega

/-- A list without a name; a list in which a name has one value. -/
def remS (fs : List Fd) (name : ByteArray) : List Fd := fs.filter fun f => !isN name f
def setS (name value : ByteArray) : List Fd → List Fd
  | [] => [(lowS name, value)]
  | f :: r => if isN name f then (lowS name, value) :: remS r name else f :: setS name value r
theorem ft_yes {α : Type} (p : α → Bool) {l : List α} {k : Nat} (h : k < l.length) (hy : p l[k] = true) : (l.take (k + 1)).filter p = (l.take k).filter p ++ [l[k]] := by
  rw [take_step l k h, List.filter_append, List.filter_cons, if_pos hy]; rfl
theorem ft_no {α : Type} (p : α → Bool) {l : List α} {k : Nat} (h : k < l.length) (hy : p l[k] = false) : (l.take (k + 1)).filter p = (l.take k).filter p := by
  rw [take_step l k h, List.filter_append, List.filter_cons, if_neg (by simp [hy])]; simp
theorem remS_keep {fs : List Fd} {name : ByteArray} {k : Nat} (h : k < fs.length) (hy : isN name fs[k] = false) : remS (fs.take (k + 1)) name = remS (fs.take k) name ++ [fs[k]] := ft_yes _ h (by simp [hy])
theorem remS_drop {fs : List Fd} {name : ByteArray} {k : Nat} (h : k < fs.length) (hy : isN name fs[k] = true) : remS (fs.take (k + 1)) name = remS (fs.take k) name := ft_no _ h (by simp [hy])
theorem remS_len (fs : List Fd) (name : ByteArray) (k : Nat) : (remS (fs.take k) name).length ≤ k :=
  Nat.le_trans (List.length_filter_le _ _) (by simp; omega)
theorem remS_le (fs : List Fd) (name : ByteArray) : (remS fs name).length ≤ fs.length := List.length_filter_le _ _
/-- Is the name among the first k? -/
def hasTo (fs : List Fd) (name : ByteArray) (k : Nat) : Bool := (fs.take k).any (isN name)
theorem hasTo_step {fs : List Fd} {name : ByteArray} {k : Nat} (h : k < fs.length) : hasTo fs name (k + 1) = (hasTo fs name k || isN name fs[k]) := by
  unfold hasTo; rw [take_step fs k h, List.any_append]; simp
/-- What Set has gathered behind k fields. -/
def setTo (fs : List Fd) (name value : ByteArray) (k : Nat) : List Fd := if hasTo fs name k then setS name value (fs.take k) else fs.take k
theorem setS_not {name value : ByteArray} : ∀ {fs : List Fd}, fs.any (isN name) = false → setS name value fs = fs ++ [(lowS name, value)]
  | [], _ => rfl
  | f :: r, h => by
    simp only [List.any_cons, Bool.or_eq_false_iff] at h
    rw [setS, h.1, if_neg (by simp), setS_not h.2]; rfl
theorem setS_app {name value : ByteArray} : ∀ {fs gs : List Fd}, fs.any (isN name) = true → setS name value (fs ++ gs) = setS name value fs ++ remS gs name
  | [], _, h => by simp at h
  | f :: r, gs, h => by
    by_cases hf : isN name f = true
    · rw [List.cons_append, setS, setS, if_pos hf, if_pos hf]; simp [remS]
    · have hf' : isN name f = false := by simpa using hf
      rw [List.any_cons, hf', Bool.false_or] at h
      rw [List.cons_append, setS, setS, if_neg hf, if_neg hf, setS_app h]; rfl
theorem setS_first {name value : ByteArray} {fs gs : List Fd} {f : Fd} (h : fs.any (isN name) = false) (hf : isN name f = true) : setS name value (fs ++ f :: gs) = fs ++ (lowS name, value) :: remS gs name := by
  induction fs with
  | nil => rw [List.nil_append, setS, if_pos hf]; rfl
  | cons x l ih =>
    simp only [List.any_cons, Bool.or_eq_false_iff] at h
    rw [List.cons_append, setS, h.1, if_neg (by simp), ih h.2]; rfl
theorem setTo_keep {fs : List Fd} {name value : ByteArray} {k : Nat} (h : k < fs.length) (hy : isN name fs[k] = false) : setTo fs name value (k + 1) = setTo fs name value k ++ [fs[k]] := by
  unfold setTo
  rw [hasTo_step h, hy, Bool.or_false]
  split
  · rename_i ht
    rw [take_step fs k h, setS_app ht]
    simp [remS, hy]
  · exact take_step fs k h
theorem setTo_new {fs : List Fd} {name value : ByteArray} {k : Nat} (h : k < fs.length) (hy : isN name fs[k] = true) (hd : hasTo fs name k = false) : setTo fs name value (k + 1) = setTo fs name value k ++ [(lowS name, value)] := by
  unfold setTo
  rw [hasTo_step h, hy, Bool.or_true, if_pos rfl, hd, if_neg (by simp), take_step fs k h, setS_first hd hy]
  simp [remS]
theorem setTo_skip {fs : List Fd} {name value : ByteArray} {k : Nat} (h : k < fs.length) (hy : isN name fs[k] = true) (hd : hasTo fs name k = true) : setTo fs name value (k + 1) = setTo fs name value k := by
  unfold setTo
  rw [hasTo_step h, hy, Bool.or_true, if_pos rfl, hd, if_pos rfl, take_step fs k h, setS_app hd]
  simp [remS, hy]
theorem setTo_end_yes {fs : List Fd} {name value : ByteArray} (hd : hasTo fs name fs.length = true) : setTo fs name value fs.length = setS name value fs := by
  unfold setTo; rw [hd, if_pos rfl, List.take_of_length_le (Nat.le_refl _)]
theorem setTo_end_no {fs : List Fd} {name value : ByteArray} (hd : hasTo fs name fs.length = false) : setTo fs name value fs.length ++ [(lowS name, value)] = setS name value fs := by
  unfold setTo; rw [hd, if_neg (by simp), List.take_of_length_le (Nat.le_refl _)]
  unfold hasTo at hd
  rw [List.take_of_length_le (Nat.le_refl _)] at hd
  rw [setS_not hd]
theorem setS_len (name value : ByteArray) : ∀ fs : List Fd, (setS name value fs).length ≤ fs.length + 1
  | [] => by simp [setS]
  | f :: r => by
    unfold setS
    split
    · have := remS_le r name; simp; omega
    · have := setS_len name value r; simp; omega
theorem setTo_len (fs : List Fd) (name value : ByteArray) (k : Nat) : (setTo fs name value k).length ≤ k + 1 := by
  have h1 : (fs.take k).length ≤ k := by simp; omega
  unfold setTo
  split
  · have := setS_len name value (fs.take k); omega
  · omega
end Go.Proofs.YtaebbnadmfbdjaaDoor
