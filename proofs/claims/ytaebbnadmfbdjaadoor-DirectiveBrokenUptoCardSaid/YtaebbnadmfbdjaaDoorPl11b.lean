
/- Plain laws of directives: upper case makes no difference; an unknown directive makes none; an open quote. No program in sight. -/
import Derived.Test.YtaebbnadmfbdjaaDoorPl11
set_option linter.unusedSimpArgs false
set_option linter.unusedVariables false
namespace Go.Proofs.YtaebbnadmfbdjaaDoor
open Go.RowKit

def upC (c : UInt8) : UInt8 := if 97 ≤ c && c ≤ 122 then c - 32 else c
def upS (s : ByteArray) : ByteArray := ⟨(s.data.toList.map upC).toArray⟩
theorem upS_data (s : ByteArray) : (upS s).data.toList = s.data.toList.map upC := rfl
theorem upS_size (s : ByteArray) : (upS s).size = s.size := by
  show (s.data.toList.map upC).toArray.size = s.data.size
  simp
theorem all_u8 {p : UInt8 → Bool} (h : (List.range 256).all (fun n => p (UInt8.ofNat n)) = true) (c : UInt8) : p c = true := by
  have h1 := List.all_eq_true.1 h c.toNat (List.mem_range.2 (UInt8.toNat_lt c))
  rwa [UInt8.ofNat_toNat] at h1
theorem up_eq (k c : UInt8) (h : (List.range 256).all (fun n => (upC (UInt8.ofNat n) == k) == (UInt8.ofNat n == k)) = true) : (upC c = k) = (c = k) := by
  have h1 := all_u8 (p := fun c => (upC c == k) == (c == k)) h c
  rw [beq_iff_eq] at h1
  apply propext
  rw [← beq_iff_eq, h1, beq_iff_eq]
theorem up34 (c : UInt8) : (upC c = 34) = (c = 34) := up_eq 34 c (by decide +kernel)
theorem up92 (c : UInt8) : (upC c = 92) = (c = 92) := up_eq 92 c (by decide +kernel)
theorem up44 (c : UInt8) : (upC c = 44) = (c = 44) := up_eq 44 c (by decide +kernel)
theorem up61 (c : UInt8) : (upC c = 61) = (c = 61) := up_eq 61 c (by decide +kernel)
theorem up_low (c : UInt8) : lowC (upC c) = lowC c := by
  have h := all_u8 (p := fun c => lowC (upC c) == lowC c) (by decide +kernel) c
  exact beq_iff_eq.1 h
theorem up_bl (c : UInt8) : blank.contains (upC c) = blank.contains c := by
  have h := all_u8 (p := fun c => blank.contains (upC c) == blank.contains c) (by decide +kernel) c
  exact beq_iff_eq.1 h
theorem up_ctl (c : UInt8) : ctlB (upC c) = ctlB c := by
  have h := all_u8 (p := fun c => ctlB (upC c) == ctlB c) (by decide +kernel) c
  exact beq_iff_eq.1 h
theorem up_dig (c : UInt8) : digB (upC c) = digB c := by
  have h := all_u8 (p := fun c => digB (upC c) == digB c) (by decide +kernel) c
  exact beq_iff_eq.1 h
theorem up_num (c : UInt8) (hd : digB c = true) : upC c = c := by
  have h := all_u8 (p := fun c => !digB c || upC c == c) (by decide +kernel) c
  rw [hd] at h; exact beq_iff_eq.1 (by simpa using h)

theorem dw_map {α β : Type} (f : α → β) (p : β → Bool) (l : List α) : (l.map f).dropWhile p = (l.dropWhile (fun x => p (f x))).map f := by
  induction l with
  | nil => rfl
  | cons x r ih =>
    rw [List.map_cons, List.dropWhile_cons, List.dropWhile_cons]
    split
    · exact ih
    · rfl
theorem trim_up (l : List UInt8) : Lib.trimS (l.map upC) blank = (Lib.trimS l blank).map upC := by
  have hp : (fun x => blank.contains (upC x)) = (fun x => blank.contains x) := funext up_bl
  unfold Lib.trimS Lib.trimLeftS Lib.trimRightS
  rw [← List.map_reverse, dw_map, hp, ← List.map_reverse, dw_map, hp]
theorem trimL_up (l : List UInt8) : trimL (l.map upC) = upS (trimL l) := by
  unfold trimL upS; rw [trim_up]
def mapSp (s : Sp) : Sp := ⟨s.m, s.cur.map upC, s.out.map upS⟩
theorem sp_up (s : Sp) (c : UInt8) : spStep 44 (mapSp s) (upC c) = mapSp (spStep 44 s c) := by
  unfold spStep mapSp
  simp only [up34, up92, up44, trimL_up]
  split
  · simp
  · split
    · split
      · simp
      · split <;> simp
    · split
      · simp
      · split <;> simp
theorem sp_ups : ∀ (l : List UInt8) (s : Sp), (l.map upC).foldl (spStep 44) (mapSp s) = mapSp (l.foldl (spStep 44) s)
  | [], s => rfl
  | c :: l, s => by rw [List.map_cons, List.foldl_cons, List.foldl_cons, sp_up, sp_ups l]
theorem ctl_up (s : ByteArray) : ctlS (upS s) = ctlS s := by
  unfold ctlS
  rw [upS_data, List.any_map]
  congr 1
  exact funext up_ctl
theorem parts_up (s : ByteArray) : partsS (upS s) 44 = (partsS s 44).map (·.map upS) := by
  rw [parts_fold, parts_fold, ctl_up, upS_data]
  split
  · rfl
  · unfold spRun
    have h := sp_ups s.data.toList ⟨0, [], []⟩
    rw [show mapSp ⟨0, [], []⟩ = ⟨0, [], []⟩ from rfl] at h
    rw [h]
    unfold spEnd mapSp
    simp only [trimL_up]
    split <;> simp
theorem full_up (x : ByteArray) : full (upS x) = full x := by unfold full; rw [upS_size]
theorem items_up (s : ByteArray) : itemsS (upS s) = (itemsS s).map upS := by
  unfold itemsS
  rw [parts_up]
  cases partsS s 44 with
  | none => rfl
  | some l =>
    simp only [Option.map_some, Option.getD_some]
    rw [List.filter_map]
    congr 1
    apply List.filter_congr
    intro x _
    exact full_up x
theorem tw_map {α β : Type} (f : α → β) (p : β → Bool) (l : List α) : (l.map f).takeWhile p = (l.takeWhile (fun x => p (f x))).map f := by
  induction l with
  | nil => rfl
  | cons x r ih =>
    rw [List.map_cons, List.takeWhile_cons, List.takeWhile_cons]
    split
    · rw [List.map_cons, ih]
    · rfl
theorem cut_up (l : List UInt8) : Lib.cut (l.map upC) [61] = ((Lib.cut l [61]).1.map upC, (Lib.cut l [61]).2.1.map upC, (Lib.cut l [61]).2.2) := by
  have hi : Lib.index (l.map upC) [61] = Lib.index l [61] := by
    rw [idx_one, idx_one, tw_map, List.length_map, List.length_map]
    have hp : (fun x => upC x != 61) = (fun x => x != 61) := funext fun c => by
      have := up61 c
      rw [Bool.eq_iff_iff, bne_iff_ne, bne_iff_ne, ne_eq, ne_eq, this]
    rw [hp]
  unfold Lib.cut
  rw [hi]
  split
  · simp only [List.map_take, List.map_drop]
  · rfl
theorem name_up (x : ByteArray) : nameE (upS x) = upS (nameE x) := by unfold nameE; rw [upS_data, cut_up]; rfl
theorem arg_up (x : ByteArray) : argE (upS x) = upS (argE x) := by unfold argE; rw [upS_data, cut_up]; rfl
theorem th_up (x : ByteArray) : thE (upS x) = thE x := by unfold thE; rw [upS_data, cut_up]
theorem low_up (x : ByteArray) : lowS (upS x) = lowS x := by
  apply bytes_ext
  show (upS x).data.toList.map lowC = x.data.toList.map lowC
  rw [upS_data, List.map_map]
  apply List.map_congr_left
  intro c _; exact up_low c
theorem okN_up (s : ByteArray) : okN (upS s) = okN s := by
  unfold okN
  rw [upS_data, upS_size, List.all_map]
  congr 2
  exact funext up_dig
theorem numR_up (s : ByteArray) : numR (upS s) = numR s := by
  unfold numR
  rw [upS_data, List.all_map, show (digB ∘ upC) = digB from funext up_dig]
  split
  · rename_i h
    congr 1
    rw [List.all_eq_true] at h
    exact (List.map_congr_left (fun c hc => up_num c (h c hc))).trans (List.map_id _)
  · rfl
theorem at_up (s : ByteArray) {i : Nat} (h : i < s.size) : (upS s)[i]'(by rw [upS_size]; exact h) = upC s[i] := by
  have h1 : (upS s).data[i]? = (s.data[i]?).map upC := by
    show (s.data.toList.map upC).toArray[i]? = _
    simp
  have h2 : i < s.data.size := h
  have h3 : i < (upS s).data.size := by have := upS_size s; show i < (upS s).size; omega
  rw [Array.getElem?_eq_getElem h2, Array.getElem?_eq_getElem h3] at h1
  exact Option.some.inj h1
theorem unq_at {s out : ByteArray} {i : Nat} (h : i < s.size) : unqGo s i out = if s[i] = 34 then (if i + 1 < s.size then none else some out)
    else if s[i] = 92 then (if i + 1 < s.size then unqGo s (i + 2) (out ++ s.extract (i + 1) (i + 2)) else none)
    else unqGo s (i + 1) (out ++ s.extract i (i + 1)) := by rw [unqGo, dif_pos h]
theorem ext_up (s : ByteArray) (i j : Nat) : (upS s).extract i j = upS (s.extract i j) := by
  apply bytes_ext
  rw [upS_data, ← ByteArray.toList_eq, ← ByteArray.toList_eq, Lib.extract_toList, Lib.extract_toList, upS_data, List.map_take, List.map_drop]
theorem app_up (a b : ByteArray) : upS (a ++ b) = upS a ++ upS b := by
  apply bytes_ext
  rw [upS_data, data_append, data_append, upS_data, upS_data, List.map_append]
theorem unqGo_up : ∀ (n : Nat) (s out : ByteArray) (i : Nat), s.size - i ≤ n → unqGo (upS s) i (upS out) = (unqGo s i out).map upS := by
  intro n
  induction n with
  | zero => intro s out i hn; rw [unq_end (by rw [upS_size]; omega), unq_end (by omega)]; rfl
  | succ n ih =>
    intro s out i hn
    by_cases hlt : i < s.size
    · rw [unq_at hlt, unq_at (s := upS s) (by rw [upS_size]; exact hlt)]
      simp only [at_up s hlt, up34, up92, upS_size, ext_up, ← app_up]
      split
      · split <;> rfl
      · split
        · split
          · exact ih _ _ _ (by omega)
          · rfl
        · exact ih _ _ _ (by omega)
    · rw [unq_end (by rw [upS_size]; omega), unq_end (by omega)]; rfl
theorem unq_up (s : ByteArray) : unqS (upS s) = (unqS s).map upS := by
  unfold unqS
  rw [ctl_up]
  split
  · rfl
  · by_cases h2 : s.size < 2
    · rw [dif_pos h2, dif_pos (by rw [upS_size]; exact h2)]; rfl
    · rw [dif_neg h2, dif_neg (by rw [upS_size]; exact h2)]
      have ha := at_up s (i := 0) (by omega)
      simp only [ha, up34]
      split
      · exact unqGo_up s.size s ⟨#[]⟩ 1 (by omega)
      · rfl
theorem isQ_up (s : ByteArray) : isQ (upS s) = isQ s := by
  unfold isQ
  rw [upS_data]
  cases s.data.toList with
  | nil => rfl
  | cons c r =>
    rw [List.map_cons, List.head?_cons, List.head?_cons, Bool.eq_iff_iff, beq_iff_eq, beq_iff_eq, Option.some.injEq, Option.some.injEq, up34]
theorem okQ_up (s : ByteArray) : okQ (upS s) = okQ s ∧ numQ (upS s) = numQ s := by
  unfold okQ numQ
  rw [isQ_up, unq_up, okN_up, numR_up]
  cases unqS s with
  | none => exact ⟨rfl, rfl⟩
  | some t => simp only [Option.map_some, okN_up, numR_up]; exact ⟨trivial, trivial⟩
theorem timeV_up (s : ByteArray) (th : Bool) (a b : Int) : timeV (upS s) th a b = timeV s th a b := by
  unfold timeV; rw [(okQ_up s).1, (okQ_up s).2]
theorem stepD_up (d : D) (x : ByteArray) : stepD d (upS x) = stepD d x := by
  unfold stepD; rw [name_up, low_up, arg_up, th_up, timeV_up, timeV_up, timeV_up]
theorem stepV_up (d : D) (v : ByteArray) : stepV d (upS v) = stepV d v := by
  unfold stepV
  rw [parts_up, items_up, Option.isSome_map, List.foldl_map]
  simp only [stepD_up]
theorem dirs_up (vs : List ByteArray) : dirS (vs.map upS) = dirS vs := by
  unfold dirS; rw [List.foldl_map]; simp only [stepV_up]

def moreP : ByteArray := ⟨#[120, 45, 109, 111, 114, 101, 61, 34, 97, 44, 32, 110, 111, 45, 115, 116, 111, 114, 101, 34, 32, 44]⟩
def moreM : ByteArray := ⟨#[120, 45, 109, 111, 114, 101, 61, 34, 97, 44, 32, 110, 111, 45, 115, 116, 111, 114, 101, 34, 32]⟩
def moreX : ByteArray := ⟨#[120, 45, 109, 111, 114, 101, 61, 34, 97, 44, 32, 110, 111, 45, 115, 116, 111, 114, 101, 34]⟩
def immV : ByteArray := ⟨#[105, 109, 109, 117, 116, 97, 98, 108, 101]⟩
theorem imm_none (d : D) : stepV d immV = d := by
  unfold stepV
  rw [show (partsS immV 44).isSome = true by kernel_rfl, if_pos rfl, show itemsS immV = [immV] by kernel_rfl]
  show stepD d immV = d
  unfold stepD
  rw [show kindE (lowS (nameE immV)) = 13 by kernel_rfl]
  rfl
theorem more_none (d : D) : stepD d moreX = d := by
  unfold stepD
  rw [show kindE (lowS (nameE moreX)) = 13 by kernel_rfl]
  rfl
theorem more_v (d : D) (v : ByteArray) : stepV d (moreP ++ v) = stepV d v := by
  have hm : moreP = moreM ++ ⟨#[44]⟩ := by kernel_rfl
  have h1 : partsS moreM 44 = some [moreX] := by kernel_rfl
  cases hv : partsS v 44 with
  | some l =>
    obtain ⟨h2, h3⟩ := items_two (a := moreM) (b := v) (by rw [h1]; rfl) (by rw [hv]; rfl)
    unfold stepV
    rw [hm, h2, h3, hv]
    rw [show (some l).isSome = true from rfl, if_pos rfl, show itemsS moreM = [moreX] by kernel_rfl, List.singleton_append, List.foldl_cons, more_none]
    rfl
  | none =>
    have h2 : partsS (moreP ++ v) 44 = none := by
      rw [parts_fold] at hv ⊢
      rw [ctl_app]
      cases hc : ctlS v
      · rw [hc, if_neg (by simp)] at hv
        rw [show ctlS moreP = false by kernel_rfl, Bool.or_false, if_neg (by simp), hm, data_append, data_append, List.append_assoc]
        have h4 : spEnd (spRun 44 moreM.data.toList) = some [moreX] := by kernel_rfl
        have := sp_join (b := v.data.toList) (by decide : (44 : UInt8) ≠ 34) h4
        rw [hv] at this
        exact this
      · rw [Bool.or_true, if_pos rfl]
    rw [stepV_no h2, stepV_no hv]
def moreL (vs : List ByteArray) : List ByteArray := vs.flatMap fun v => [moreP ++ v, immV]
theorem moreL_step {V : List ByteArray} {k : Nat} (h : k < V.length) : moreL (V.take (k + 1)) = moreL (V.take k) ++ [moreP ++ V[k], immV] := by
  unfold moreL; rw [take_step V k h, List.flatMap_append, List.flatMap_singleton]
theorem moreL_len (V : List ByteArray) : (moreL V).length = 2 * V.length := by
  induction V with
  | nil => rfl
  | cons v r ih => simp only [moreL, List.flatMap_cons, List.length_append, List.length_cons, List.length_nil] at *; omega
theorem dirs_more (vs : List ByteArray) : dirS (moreL vs) = dirS vs := by
  unfold dirS
  generalize noneD = d
  induction vs generalizing d with
  | nil => rfl
  | cons v r ih =>
    show ((moreP ++ v) :: immV :: moreL r).foldl stepV d = _
    rw [List.foldl_cons, List.foldl_cons, List.foldl_cons, more_v, imm_none, ih]
theorem moreL_bsz {V : List ByteArray} {B : Nat} (h : ∀ v ∈ V, v.size ≤ B) (hB : 9 ≤ B + 22) : ∀ v ∈ moreL V, v.size ≤ B + 22 := by
  intro x hx
  obtain ⟨v, hv, hx⟩ := List.mem_flatMap.1 hx
  have := h v hv
  rcases List.mem_cons.1 hx with rfl | hx
  · rw [ByteArray.size_append, show moreP.size = 22 from rfl]; omega
  · simp only [List.mem_singleton] at hx; subst hx; exact hB

def brkP : ByteArray := ⟨#[112, 117, 98, 108, 105, 99, 44, 32, 109, 97, 120, 45, 97, 103, 101, 61, 34, 49]⟩
theorem brk_none {t : ByteArray} (h : ∀ c ∈ t.data.toList, ¬ c = 34 ∧ ¬ c = 92) : partsS (brkP ++ t) 44 = none := by
  rw [parts_fold]
  split
  · rfl
  · have key : ∀ (l : List UInt8) (s : Sp), s.m = 1 → (∀ c ∈ l, ¬ c = 34 ∧ ¬ c = 92) → (l.foldl (spStep 44) s).m = 1 := by
      intro l
      induction l with
      | nil => intro s h _; exact h
      | cons c r ih =>
        intro s hs hc
        rw [List.foldl_cons]
        refine ih _ ?_ (fun x hx => hc x (List.mem_cons_of_mem _ hx))
        obtain ⟨m, cur, out⟩ := s
        obtain rfl : m = 1 := hs
        have := hc c (List.mem_cons_self ..)
        rw [sp1, if_neg this.2, if_neg this.1]
    have h2 : (spRun 44 (brkP ++ t).data.toList).m = 1 := by
      unfold spRun
      rw [data_append, List.foldl_append]
      exact key _ _ (by kernel_rfl) h
    unfold spEnd
    rw [h2]; rfl
theorem dirs_brk {t : ByteArray} (vs : List ByteArray) (h : ∀ c ∈ t.data.toList, ¬ c = 34 ∧ ¬ c = 92) : dirS ((brkP ++ t) :: vs) = { dirS vs with b0 := true } := by
  unfold dirS
  rw [List.foldl_cons, stepV_no (brk_none h), dirs_set]
end Go.Proofs.YtaebbnadmfbdjaaDoor
