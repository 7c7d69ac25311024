/- The walk of validator.ReadTags. The walk of quaysideref10.ReadAll. The walks of field.Get and quaysideref02.Get. The walk of validator.matches; validator.date and Evaluate at the fixed example; the law package's awake. The calendar, in plain words: days, months, years. No program in sight, no condition. The walks of the package httpdate's small functions: leap, month, before, Day, Date, Weekday, two, number. The walks of the package httpdate: number, Day, Date. The walk of httpdate.Format. The walk of httpdate.Parse. The walks of validator.date, Evaluate, UseRange. The walks of the package quaysideref04's small functions: leap, length, Day, Date, Weekday, number, digits. The walks of the package quaysideref04: number, digits. The walks of the package quaysideref04: Format, Parse. The walk of quaysideref04.Parse: it agrees with httpdate.Parse. The walks of validator.UseRange, quaysideref10.matches, Evaluate, UseRange. The walk of quaysideref10.Evaluate. The walks of validator.UseRange and quaysideref10.UseRange. The walks of syntax.tchar, syntax.Token, quaysideref01.tchar, quaysideref01.Token. The walks of field.Size, quaysidelaw02.awake; FieldGets returns true. The walks of field.Name, field.Value, quaysideref02.Name, quaysideref02.Value, quaysidebase.Num, quaysidelaw02.FieldNames. The walks of field.check, field.Check, quaysideref02.Check; FieldChecks returns true. The walks of field.Remove, quaysideref02.Remove, slices.Clone, slices.Clip, field.Add, quaysideref02.Add. The walks of field.Set, quaysideref02.Set. The origin in plain words: versions, what Publish refuses, what a request selects, what an answer is. No program in sight. -/
import Derived.Test.YtmckbcbdnckngaaGreatDoorJ2
import Derived.Test.YtmckbcbdnckngaaGreatDoorShelf
import Derived.Deep.RegionHeld3
import Derived.IntWalk
import Derived.Deep.DeepCutAuto
import Derived.Test.YtmckbcbdnckngaaGreatDoorRows
import Derived.Lib.IndexAny
import Derived.Lib.LazyBuf
import Derived.Deep.LoopGhost
set_option linter.unusedSimpArgs false
set_option linter.unusedVariables false
namespace Go.Proofs.YtmckbcbdnckngaaGreatDoor
open Go.RowKit

theorem idxB (l : List UInt8) : Lib.indexByte l 34 = if (twq l).length < l.length then ((twq l).length : Int) else -1 := by
  unfold twq
  induction l with
  | nil => rfl
  | cons x r ih =>
    unfold Lib.indexByte
    by_cases h : x = 34
    · subst h; simp
    · rw [if_neg (by simpa using h)]
      have ht : (x :: r).takeWhile (· != 34) = x :: r.takeWhile (· != 34) := by simp [h]
      rw [ht]
      simp only [List.length_cons]
      by_cases h2 : (r.takeWhile (· != 34)).length < r.length
      · rw [if_pos h2] at ih
        rw [ih, if_neg (by rw [beq_iff_eq]; omega), if_pos (by omega)]; omega
      · rw [if_neg h2] at ih
        rw [ih, if_pos (by decide), if_neg (by omega)]
theorem q1 {l : List UInt8} (h : (twq l).length < l.length) : dwq l = l.drop ((twq l).length + 1) := by
  have hs := split34 l h
  generalize twq l = a at *
  generalize dwq l = b at *
  rw [hs]
  rw [show a ++ 34 :: b = (a ++ [34]) ++ b by simp, List.drop_append_of_le_length (by simp), List.drop_of_length_le (by simp)]; rfl
theorem q2 {l : List UInt8} (h : (twq l).length < l.length) (h2 : (twq (dwq l)).length < (dwq l).length) : l.take ((twq l).length + (twq (dwq l)).length + 2) = twq l ++ 34 :: (twq (dwq l) ++ [34]) := by
  have hs := split34 l h
  have hs2 := split34 _ h2
  generalize twq l = a at *
  generalize dwq l = b at *
  generalize twq b = m at *
  generalize dwq b = t at *
  rw [hs, hs2, show a ++ 34 :: (m ++ 34 :: t) = (a ++ 34 :: (m ++ [34])) ++ t by simp]
  rw [List.take_append_of_le_length (by simp; omega), List.take_of_length_le (by simp; omega)]
theorem q3 {l : List UInt8} (h : (twq l).length < l.length) (h2 : (twq (dwq l)).length < (dwq l).length) : dwq (dwq l) = l.drop ((twq l).length + (twq (dwq l)).length + 2) := by
  rw [q1 h2]
  generalize (twq (dwq l)).length = g at *
  rw [q1 h, List.drop_drop]
  congr 1; omega
theorem q4 {l : List UInt8} (h : (twq l).length < l.length) (h2 : (twq (dwq l)).length < (dwq l).length) : (twq l).length + (twq (dwq l)).length + 2 ≤ l.length := by
  have h3 := congrArg List.length (q1 h)
  rw [List.length_drop] at h3
  omega

section
variable {n : Nat} {X : ByteArray} {out : List Tg}
theorem rd_end : rdL (n + 1) (⟨#[]⟩ : ByteArray).data.toList out = if out = [] then none else some out := rfl
theorem X_ne (h : 0 < X.size) : X.data.toList ≠ [] := by
  intro e
  have h1 : X.data.toList.length = X.size := by simp
  rw [e, List.length_nil] at h1
  omega
theorem X_head (h : 0 < X.size) : X.data.toList.head? = some X[0] := by
  obtain ⟨⟨l⟩⟩ := X
  cases l with
  | nil => exact absurd h (by decide)
  | cons c r => rfl
theorem rd_comma (h : 0 < X.size) (hc : (X[0].toNat : Int) = 44) : rdL (n + 1) X.data.toList out = rdL n (lefT (X.extract 1 X.size).data.toList) out := by
  rw [rdL, if_neg (X_ne h), if_pos (by rw [X_head h, u8c hc]), ext_drop]
where u8c {c : UInt8} (h : (c.toNat : Int) = 44) : c = 44 := UInt8.toNat_inj.1 (by show c.toNat = 44; omega)
theorem not44 {c : UInt8} (hc : ¬ (c.toNat : Int) = 44) : c ≠ 44 := fun e => hc (by rw [e]; rfl)
theorem rd_step (h : 0 < X.size) (hc : ¬ (X[0].toNat : Int) = 44) : rdL (n + 1) X.data.toList out =
    if (twq X.data.toList).length < X.data.toList.length then
      (if (twq (dwq X.data.toList)).length < (dwq X.data.toList).length then
        match tagS (mkB (twq X.data.toList ++ 34 :: (twq (dwq X.data.toList) ++ [34]))) with
        | none => none
        | some t => (if (lefT (dwq (dwq X.data.toList))) ≠ [] ∧ (lefT (dwq (dwq X.data.toList))).head? ≠ some 44 then none else rdL n (lefT (dwq (dwq X.data.toList))) (out ++ [t]))
      else none)
    else none := by
  rw [rdL, if_neg (X_ne h), if_neg (by rw [X_head h]; intro e; injection e with e; exact not44 hc e)]
  rfl
end

/-- Tags as cells. -/
def tgCells (l : List Tg) : List Value := l.flatMap fun t => [.bool t.1, .string t.2]
theorem tgCells_len (l : List Tg) : (tgCells l).length = l.length * 2 := by
  induction l with
  | nil => rfl
  | cons x l ih => simp only [tgCells, List.flatMap_cons, List.length_append, List.length_cons, List.length_nil] at *; omega
theorem tgCells_one (l : List Tg) : ∀ u ∈ tgCells l, u.oneCell' = true := by
  intro u hu
  obtain ⟨t, _, ht⟩ := List.mem_flatMap.1 hu
  simp only [List.mem_cons, List.not_mem_nil, or_false] at ht
  rcases ht with rfl | rfl <;> rfl
theorem tgCells_app (l m : List Tg) : tgCells (l ++ m) = tgCells l ++ tgCells m := by simp [tgCells]
abbrev RdT (w : World) (A : Option Addr) (n : Nat) (ts : List Tg) : Prop := Rd w 2 A n (tgCells ts)
def isStar (s : ByteArray) : Bool := (trimF s).toList == [42]
/-- The tags of a list. -/
def tgO (s : ByteArray) : Option (List Tg) := if isStar s then some [] else rdL ((trimF s).size + 1) (trimF s).data.toList []
def tgE (o : Option (List Tg)) : Nat := if o.isSome then 0 else 2
theorem infoTg : (Tryz.prog.info? 185).map (fun i => (i.zero, i.size, i.bytes)) = some (some (.agg #[.bool false, .string ⟨#[]⟩]), 2, 24) := by kernel_rfl
theorem isE_no' {x : ByteArray} (h : 0 < x.size) : x.toList.isEmpty = false := by
  rw [Bool.eq_false_iff, ByteArray.toList_eq]
  intro he
  have := congrArg List.length (List.isEmpty_iff.1 he)
  rw [List.length_nil] at this
  have h1 : x.data.toList.length = x.size := by simp
  omega
theorem TrimLeft_blank (s : ByteArray) (w : World) :
    Calls Tryz.prog 179 #[.string s, .string ⟨#[32, 9]⟩] w fun e w' => e = .returned (.string (mkB (lefT s.data.toList))) ∧ Ext w w' :=
  Any.strings_TrimLeft_laid Tryz.lays161 (by kernel_rfl) s ⟨#[32, 9]⟩ w (by decide) (ascii_of_all (by decide))
theorem mkB_size (l : List UInt8) : (mkB l).size = l.length := by simp [mkB, ByteArray.size]
theorem mkB_list (l : List UInt8) : (mkB l).data.toList = l := by simp [mkB]

set_option maxHeartbeats 2000000 in
set_option maxRecDepth 100000 in
theorem val_ReadTags (s : ByteArray) (w : World) (hs : s.size ≤ 1048576) :
    Calls Tryz.prog 163 #[.string s] w fun e w' => ∃ A n c, e = .returned (.tuple #[.slice A n c, .bool (isStar s), errV (tgE (tgO s))]) ∧
      RdT w' A n ((tgO s).getD []) ∧ n ≤ c ∧ n ≤ s.size ∧ Ext w w' := by
  have hts := trimF_size s
  go_enter Tryz.func163, Tryz.ntmps163
  go_wp2_with fail
  refine (strings_Trim_blank s _ (by omega)).mono ?_; rintro e w1 ⟨rfl, hb1⟩
  have Hst := Lib.hid (show isStar s = ((trimF s).toList == [42]) from rfl)
  have Ho := Lib.hid (show tgO s = if isStar s then some [] else rdL ((trimF s).size + 1) (trimF s).data.toList [] from rfl)
  generalize trimF s = T at *
  cases hst : isStar s
  · rw [hst] at Hst Ho
    have hq := Hst.out.symm
    have HO := Lib.hid (show rdL (T.size + 1) T.data.toList [] = tgO s by rw [Ho.out]; rfl)
    have Hs := Lib.hid hst; clear hst Hst Ho
    go_wp2_with fail
    go_loopw [0, 2] (fun x v wr => ∃ X OUT m A' c' N, x = .string X ∧ v = .slice A' m c' ∧ wr.ownsRow w1.heap.size 185 2 (.slice A' m c') m (tgCells OUT) ∧ m ≤ c' ∧ m + X.size ≤ T.size ∧ X.size < N ∧ rdL N X.data.toList OUT = tgO s ∧ Ext w1 wr) (fun x _ _ => lenOf' x)
    case atStart => exact ⟨T, [], 0, none, 0, T.size + 1, rfl, rfl, World.ownsRow_nil _ _ _ _, Nat.le_refl _, by omega, by omega, HO.out, Ext.refl _⟩
    case round =>
      obtain ⟨X, OUT, m, A', c', N, rfl, rfl, hown, hmc, hmX, hXN, hrd, hbr⟩ := hrel
      have Hrd := Lib.hid hrd; clear hrd
      have hm1 := hown.1
      rw [tgCells_len] at hm1
      have Hm := Lib.hid (show OUT.length = m by omega); clear hm1
      obtain ⟨n, rfl⟩ : ∃ n, N = n + 1 := ⟨N - 1, by omega⟩
      rcases Nat.eq_zero_or_pos X.size with h0 | h0
      · obtain rfl := ByteArray.size_eq_zero_iff.1 h0
        have Hend := Lib.hid (show (if OUT = [] then none else some OUT) = tgO s from Hrd.out)
        by_cases hm0 : m = 0
        · have HN := Lib.hid (show tgO s = none by rw [← Hend.out, if_pos (List.eq_nil_of_length_eq_zero (by rw [Hm.out]; exact hm0))])
          have hz : ((m : Int) == 0) = true := by rw [beq_iff_eq]; omega
          clear hm0
          go_wp2_with fail
          go_ret3
          exact ⟨none, 0, 0, by rw [Hs.out, HN.out]; rfl, by rw [HN.out]; exact Rd.none_ _ _ _, Nat.le_refl _, Nat.zero_le _, hb1.trans hbr⟩
        · have HY := Lib.hid (show tgO s = some OUT by rw [← Hend.out, if_neg (by intro e; rw [e] at Hm; exact hm0 Hm.out.symm)])
          have hz : ((m : Int) == 0) = false := by rw [beq_eq_false_iff_ne]; omega
          go_wp2_with fail
          go_ret3
          exact ⟨_, _, _, by rw [Hs.out, HY.out]; rfl, by rw [HY.out]; exact Rd.of_own hown, hmc, by omega, hb1.trans hbr⟩
      · have hne : X.toList.isEmpty = false := isE_no' h0
        by_cases h44 : (X[0].toNat : Int) = 44
        · have HF := Lib.hid ((rd_comma (n := n) (out := OUT) h0 h44).symm.trans Hrd.out); clear Hrd
          go_wp2_with fail
          refine (TrimLeft_blank _ _).mono ?_; rintro e w2 ⟨rfl, hb2⟩
          have hl := lefT_len (X.extract 1 X.size).data.toList
          have hxs : (X.extract 1 X.size).data.toList.length = X.size - 1 := by rw [ext_drop, List.length_drop]; simp
          have hY := mkB_size (lefT (X.extract 1 X.size).data.toList)
          have hYl := Lib.hid (mkB_list (lefT (X.extract 1 X.size).data.toList))
          rw [hxs] at hl
          clear hxs
          generalize hg : mkB (lefT (X.extract 1 X.size).data.toList) = Y at *
          clear hg
          go_wp2_with fail
          go_roundw
          case rel => exact ⟨Y, OUT, m, A', c', n, rfl, rfl, own_ext hown hb2, hmc, by omega, by omega, by rw [hYl.out]; exact HF.out, hbr.trans hb2⟩
          case measure => show Y.size < X.size; omega
        · have HF := Lib.hid ((rd_step (n := n) (out := OUT) h0 h44).symm.trans Hrd.out); clear Hrd
          have hn44 : ((X[0].toNat : Int) == 44) = false := by rw [beq_eq_false_iff_ne]; exact h44
          have hi1 := Lib.hid (idxB X.data.toList)
          have hXl : X.data.toList.length = X.size := by simp
          by_cases hf : (twq X.data.toList).length < X.data.toList.length
          · have hi1' := hi1.out.trans (if_pos hf)
            have Hi1 := Lib.hid hi1'; clear hi1' hi1
            have hq1 := Lib.hid (show (X.extract ((twq X.data.toList).length + 1) X.size).data.toList = dwq X.data.toList by rw [ext_drop]; exact (q1 hf).symm)
            by_cases hg : (twq (dwq X.data.toList)).length < (dwq X.data.toList).length
            · have hq4 := q4 hf hg
              have Hi2 := Lib.hid ((idxB (dwq X.data.toList)).trans (if_pos hg))
              have Hq2 := Lib.hid (show X.extract 0 ((twq X.data.toList).length + (twq (dwq X.data.toList)).length + 2) = mkB (twq X.data.toList ++ 34 :: (twq (dwq X.data.toList) ++ [34])) from bytes_ext (by rw [ext_take, mkB_list]; exact q2 hf hg))
              have Hq3 := Lib.hid (show (X.extract ((twq X.data.toList).length + (twq (dwq X.data.toList)).length + 2) X.size).data.toList = dwq (dwq X.data.toList) by rw [ext_drop]; exact (q3 hf hg).symm)
              have HF2 := Lib.hid (by have h := HF.out; rwa [if_pos hf, if_pos hg] at h); clear HF
              generalize mkB (twq X.data.toList ++ 34 :: (twq (dwq X.data.toList) ++ [34])) = Z at *
              have Hdd := Lib.hid (lefT_len (dwq (dwq X.data.toList)))
              have Hdl := Lib.hid (show (dwq (dwq X.data.toList)).length + ((twq X.data.toList).length + (twq (dwq X.data.toList)).length + 2) = X.size by
                have := congrArg List.length (q3 hf hg)
                rw [List.length_drop] at this; omega)
              rw [hXl] at hq4
              generalize dwq (dwq X.data.toList) = D2 at *
              generalize (twq X.data.toList).length = f at *
              generalize hD : dwq X.data.toList = D1 at *
              generalize (twq D1).length = g at *
              clear hf hg hD hXl
              go_wp2_with fail
              refine (Tryz.strings_IndexByte X 34 _).mono ?_; rintro e w2 ⟨rfl, rfl⟩
              rw [show Lib.indexByte X.data.toList ((34 : Int).toNat.toUInt8) = (f : Int) from Hi1.out]
              go_wp2_with fail
              refine (Tryz.strings_IndexByte _ 34 _).mono ?_; rintro e w3 ⟨rfl, rfl⟩
              rw [show Lib.indexByte (X.extract (f + 1) X.size).data.toList ((34 : Int).toNat.toUInt8) = (g : Int) by rw [hq1.out]; exact Hi2.out]
              go_wp2_with fail
              refine (val_ReadTag _ _ (by rw [ByteArray.size_extract]; omega)).mono ?_; rintro e w4 ⟨rfl, hb4⟩
              rw [Hq2.out]
              cases ht : tagS Z with
              | none =>
                have HN := Lib.hid (show tgO s = none by have h := HF2.out; rw [ht] at h; exact h.symm); clear ht HF2
                rw [show tagV none = .agg #[.bool false, .string ⟨#[]⟩] from rfl, show errV (tagE none) = .iface 63 (.int .i64 2) from rfl]
                go_wp2_with fail
                go_ret3
                exact ⟨none, 0, 0, by rw [Hs.out, HN.out]; rfl, by rw [HN.out]; exact Rd.none_ _ _ _, Nat.le_refl _, Nat.zero_le _, hb1.trans ((hbr.trans hb4).alloc _)⟩
              | some t =>
                obtain ⟨tw, tt⟩ := t
                have HF3 := Lib.hid (by have h := HF2.out; rw [ht] at h; exact h); clear ht HF2
                rw [show tagV (some (tw, tt)) = .agg #[.bool tw, .string tt] from rfl, show errV (tagE (some (tw, tt))) = .nilIface from rfl]
                have hown4 := (own_ext hown hb4).alloc (.cells #[.bool tw, .string tt] 185)
                have hbr4 := (hbr.trans hb4).alloc (.cells #[.bool tw, .string tt] 185)
                go_wp2_with (first
                  | (at_builtin; refine wpList_app _ rfl (.tmp 49) (.tmp 51) 234 rfl w1 185 _ 2 24 Tryz.underlying234 infoTg rfl (by decide) _ _ _ rfl (hown4.alloc _) _ 1 1 (tgCells [(tw, tt)]) rfl (Rd.two _ _ _ _ (by simp)) (tgCells_one _) (hbr4.alloc _) (by omega) (by decide) ?_; intro A5 c5 w5 hown5 hb5 hle5))
                refine (TrimLeft_blank _ _).mono ?_; rintro e w6 ⟨rfl, hb6⟩
                rw [Hq3.out]
                have hY := mkB_size (lefT D2)
                have hYl := Lib.hid (mkB_list (lefT D2))
                have hYz : (lefT D2).length + 2 ≤ X.size := by have h1 := Hdd.out; have h2 := Hdl.out; omega
                rw [← hY] at hYz
                generalize hg : mkB (lefT D2) = Y at *
                clear hg hY
                have hown6 := own_ext hown5 hb6
                have hb16 := hb5.trans hb6
                rcases Nat.eq_zero_or_pos Y.size with hy0 | hy0
                · have hye : Y.toList.isEmpty = true := by rw [ByteArray.toList_eq]; obtain rfl := ByteArray.size_eq_zero_iff.1 hy0; rfl
                  have hyl : lefT D2 = [] := by rw [← hYl.out]; obtain rfl := ByteArray.size_eq_zero_iff.1 hy0; rfl
                  have HF4 := Lib.hid (by have h := HF3.out; rwa [if_neg (by rw [hyl]; simp)] at h); clear HF3
                  go_wp2_with fail
                  go_roundw
                  case rel => exact ⟨Y, OUT ++ [(tw, tt)], m + 1, A5, c5, n, rfl, rfl, by rw [tgCells_app]; exact hown6, hle5, by omega, by omega, by rw [hYl.out]; exact HF4.out, hb16⟩
                  case measure => show Y.size < X.size; omega
                · have hye := isE_no' hy0
                  have hhd := X_head hy0
                  rw [hYl.out] at hhd
                  by_cases hy44 : (Y[0].toNat : Int) = 44
                  · have hyb : ((Y[0].toNat : Int) != 44) = false := by simp [hy44]
                    have HF4 := Lib.hid (by have h := HF3.out; rwa [if_neg (by rw [hhd]; intro e; exact e.2 (congrArg some (UInt8.toNat_inj.1 (by show Y[0].toNat = 44; omega))))] at h); clear HF3
                    clear hhd
                    go_wp2_with fail
                    go_roundw
                    case rel => exact ⟨Y, OUT ++ [(tw, tt)], m + 1, A5, c5, n, rfl, rfl, by rw [tgCells_app]; exact hown6, hle5, by omega, by omega, by rw [hYl.out]; exact HF4.out, hb16⟩
                    case measure => show Y.size < X.size; omega
                  · have hyb : ((Y[0].toNat : Int) != 44) = true := by simp [hy44]
                    have HN := Lib.hid (show tgO s = none by
                      have h := HF3.out
                      rw [if_pos ⟨(fun e => by rw [e] at hhd; cases hhd), (by rw [hhd]; intro e; injection e with e; exact not44 hy44 e)⟩] at h
                      exact h.symm)
                    clear hhd HF3
                    go_wp2_with fail
                    go_ret3
                    exact ⟨none, 0, 0, by rw [Hs.out, HN.out]; rfl, by rw [HN.out]; exact Rd.none_ _ _ _, Nat.le_refl _, Nat.zero_le _, hb1.trans hb16⟩
            · have HN := Lib.hid (show tgO s = none by rw [← HF.out, if_pos hf, if_neg hg])
              have Hi2 := Lib.hid ((idxB (dwq X.data.toList)).trans (if_neg hg))
              rw [hXl] at hf
              generalize (twq X.data.toList).length = f at *
              clear hg HF hXl
              go_wp2_with fail
              refine (Tryz.strings_IndexByte X 34 _).mono ?_; rintro e w2 ⟨rfl, rfl⟩
              rw [show Lib.indexByte X.data.toList ((34 : Int).toNat.toUInt8) = (f : Int) from Hi1.out]
              go_wp2_with fail
              refine (Tryz.strings_IndexByte _ 34 _).mono ?_; rintro e w3 ⟨rfl, rfl⟩
              rw [show Lib.indexByte (X.extract (f + 1) X.size).data.toList ((34 : Int).toNat.toUInt8) = -1 by rw [hq1.out]; exact Hi2.out]
              go_wp2_with fail
              go_ret3
              exact ⟨none, 0, 0, by rw [Hs.out, HN.out]; rfl, by rw [HN.out]; exact Rd.none_ _ _ _, Nat.le_refl _, Nat.zero_le _, hb1.trans hbr⟩
          · have HN := Lib.hid (show tgO s = none by rw [← HF.out, if_neg hf])
            have Hi1 := Lib.hid (hi1.out.trans (if_neg hf))
            clear hf HF hXl
            go_wp2_with fail
            refine (Tryz.strings_IndexByte X 34 _).mono ?_; rintro e w2 ⟨rfl, rfl⟩
            rw [show Lib.indexByte X.data.toList ((34 : Int).toNat.toUInt8) = -1 from Hi1.out]
            go_wp2_with fail
            go_ret3
            exact ⟨none, 0, 0, by rw [Hs.out, HN.out]; rfl, by rw [HN.out]; exact Rd.none_ _ _ _, Nat.le_refl _, Nat.zero_le _, hb1.trans hbr⟩
  · rw [hst] at Hst Ho
    have hq := Hst.out.symm
    have Hs := Lib.hid hst; clear hst Hst
    go_wp2_with fail
    go_ret3
    exact ⟨none, 0, 0, by rw [Hs.out, Ho.out]; rfl, by rw [Ho.out]; exact Rd.none_ _ _ _, Nat.le_refl _, Nat.zero_le _, hb1⟩
end Go.Proofs.YtmckbcbdnckngaaGreatDoor

namespace Go.Proofs.YtmckbcbdnckngaaGreatDoor
open Go.RowKit

theorem ext_sn (s : ByteArray) {st i : Nat} (hst : st ≤ i) (hi : i < s.size) : (s.extract st (i + 1)).data.toList = (s.extract st i).data.toList ++ [s[i]] := by
  rw [← ByteArray.toList_eq, ← ByteArray.toList_eq, Lib.extract_toList, Lib.extract_toList]
  rw [show i + 1 - st = (i - st) + 1 by omega]
  have hl : i - st < (s.data.toList.drop st).length := by
    rw [List.length_drop]
    have : s.data.toList.length = s.size := by simp
    omega
  rw [List.take_succ_eq_append_getElem hl]
  congr 2
  rw [List.getElem_drop]
  simp only [Array.getElem_toList]
  have : st + (i - st) = i := by omega
  simp only [this]
  rfl
theorem drop_cn (s : ByteArray) {i : Nat} (hi : i < s.size) : s.data.toList.drop i = s[i] :: s.data.toList.drop (i + 1) := by
  rw [List.drop_eq_getElem_cons (by simpa using hi)]; rfl
theorem dropR {l : List UInt8} : ∃ bs, (∀ c ∈ bs, bl c = true) ∧ l = Lib.trimRightS l blank ++ bs := by
  obtain ⟨bs, h1, h2, _⟩ := left_split l.reverse
  refine ⟨bs.reverse, fun c hc => h1 c (List.mem_reverse.1 hc), ?_⟩
  have h3 := congrArg List.reverse h2
  rw [List.reverse_reverse, List.reverse_append] at h3
  exact h3
theorem trimS_bl (cur : List UInt8) {bs : List UInt8} (hb : ∀ c ∈ bs, bl c = true) : Lib.trimS (cur ++ bs) blank = Lib.trimS cur blank := by
  unfold Lib.trimS Lib.trimRightS
  rw [List.reverse_append, dwAll (p := (blank.contains ·)) (a := bs.reverse) cur.reverse (fun c hc => hb c (List.mem_reverse.1 hc))]
theorem rf_blR {bs : List UInt8} (hb : ∀ c ∈ bs, bl c = true) : ∀ (l : List UInt8) (q : Bool) (cur : List UInt8) (out : List Tg), rfL (l ++ bs) q cur out = rfL l q cur out
  | [], q, cur, out => by
    have hp : ∀ c ∈ bs, c ≠ 34 ∧ c ≠ 44 := fun d hd => by
      have := hb d hd
      exact ⟨fun e => by subst e; exact absurd this (by decide), fun e => by subst e; exact absurd this (by decide)⟩
    have key : rfL bs q cur out = addP (cur ++ bs) out := by
      cases q
      · have := rf_part (p := bs) [] out hp cur
        rw [List.append_nil] at this
        rw [this]; rfl
      · have := rf_quo (p := bs) [] out (fun c hc => (hp c hc).1) cur
        rw [List.append_nil] at this
        rw [this]; rfl
    rw [List.nil_append, key]
    show addP (cur ++ bs) out = addP cur out
    unfold addP trimQ
    rw [trimS_bl cur hb]
  | c :: l, q, cur, out => by
    rw [List.cons_append]
    simp only [rfL]
    split
    · exact rf_blR hb l _ _ _
    · cases addP cur out with
      | none => rfl
      | some o => exact rf_blR hb l _ _ _
theorem rf_trim (s : ByteArray) (out : List Tg) : rfL (trimF s).data.toList false [] out = rfL s.data.toList false [] out := by
  obtain ⟨bs, h1, h2⟩ := dropR (l := s.data.toList)
  conv => rhs; rw [h2, rf_blR h1, ← rf_left]
  congr 1
theorem trimF_head (s : ByteArray) : ∀ c, (trimF s).data.toList.head? = some c → bl c = false := by
  intro c hc
  obtain ⟨_, _, _, h3⟩ := left_split (Lib.trimRightS s.data.toList blank)
  exact h3 c (by rw [← hc]; simp [trimF, Lib.trimS, lefT])
theorem tg_fin {s : ByteArray} (h : isStar s = false) : finR (rfL s.data.toList false [] []) = tgO s := by
  unfold tgO
  rw [h, if_neg (by simp), rd_rf _ _ _ (by simp) (trimF_head s), rf_trim]
section
variable {s : ByteArray} {k j : Nat} {b : Bool} {OUT : List Tg}
theorem rf_go (h : k < s.size) (hj : j ≤ k) (hq : nq s[k] b = true ∨ s[k] ≠ 44) : rfL (s.data.toList.drop k) b (s.extract j k).data.toList OUT = rfL (s.data.toList.drop (k + 1)) (nq s[k] b) (s.extract j (k + 1)).data.toList OUT := by
  rw [drop_cn s h, ext_sn s hj h]
  simp only [rfL]
  rw [if_pos hq]
theorem rf_comma (h : k < s.size) (hc : s[k] = 44) : rfL (s.data.toList.drop k) false (s.extract j k).data.toList OUT = match addP (s.extract j k).data.toList OUT with | none => none | some o => rfL (s.data.toList.drop (k + 1)) false (s.extract (k + 1) (k + 1)).data.toList o := by
  have he : (s.extract (k + 1) (k + 1)).data.toList = [] := by rw [← ByteArray.toList_eq, Lib.extract_toList]; simp
  rw [drop_cn s h, he]
  simp only [rfL, hc]
  rw [nq_no (by decide), if_neg (by simp)]
  rfl
theorem rf_end (h : k = s.size) : rfL (s.data.toList.drop k) b (s.extract j k).data.toList OUT = addP (s.extract j k).data.toList OUT := by
  subst h
  rw [List.drop_of_length_le (by simp)]; rfl
theorem add_nil (h : (trimF (s.extract j k)).size = 0) : addP (s.extract j k).data.toList OUT = some OUT := by
  unfold addP; rw [if_pos (show (trimQ (s.extract j k).data.toList).size = 0 from h)]
theorem add_none (h : 0 < (trimF (s.extract j k)).size) (ht : tagS (trimF (s.extract j k)) = none) : addP (s.extract j k).data.toList OUT = none := by
  unfold addP
  rw [if_neg (show ¬ (trimQ (s.extract j k).data.toList).size = 0 from (by show ¬ (trimF (s.extract j k)).size = 0; omega)), show tagS (trimQ (s.extract j k).data.toList) = none from ht]; rfl
theorem add_some {t : Tg} (h : 0 < (trimF (s.extract j k)).size) (ht : tagS (trimF (s.extract j k)) = some t) : addP (s.extract j k).data.toList OUT = some (OUT ++ [t]) := by
  unfold addP
  rw [if_neg (show ¬ (trimQ (s.extract j k).data.toList).size = 0 from (by show ¬ (trimF (s.extract j k)).size = 0; omega)), show tagS (trimQ (s.extract j k).data.toList) = some t from ht]; rfl
end
end Go.Proofs.YtmckbcbdnckngaaGreatDoor

namespace Go.Proofs.YtmckbcbdnckngaaGreatDoor
open Go.RowKit

set_option maxHeartbeats 1000000 in
theorem field_Get (A : Option Addr) (n c : Nat) (fs : List Fd) (name : ByteArray) (w : World) (hf : RdF w A n fs)
    (hn : n ≤ 1073741824) (hs : name.size ≤ 9223372036854775807) (B : Nat) (hB : B ≤ 140737488355328) (hsz : Bsz B fs) (hT : sumF fs + 2 * n ≤ 70368744177664) :
    Calls Tryz.prog 17 #[.slice A n c, .string name] w fun e w' => e = .returned (.tuple #[.string (joinS (allS fs name)), .bool (decide (0 < (allS fs name).length))]) ∧ Ext w w' := by
  have hl := hf.lenF
  have hta := totS_all fs name
  rw [hl] at hta
  have hal : (allS fs name).length ≤ n := by have := allS_len fs name n; rwa [List.take_of_length_le (by omega)] at this
  have Hl := Lib.hid hl; clear hl
  go_enter Tryz.func17, Tryz.ntmps17
  go_wp2_with fail
  refine (field_All _ _ _ _ _ _ hf hn hs (fun f hff => by have := (hsz f hff).1; omega)).mono ?_
  rintro e w1 ⟨A', n', c', rfl, hr, hc, hb1⟩
  have hl2 := hr.lenS
  rw [← hl2] at hc hr
  obtain rfl := hl2
  generalize hss : allS fs name = ss at *
  have Hss := Lib.hid hss; clear hss
  go_wp2_with fail
  refine (str_Join _ _ _ _ _ hr hc (by omega)).mono ?_
  rintro e w2 ⟨rfl, hb2⟩
  go_wp2_with fail
  go_ret2
  obtain rfl := Hss.out
  exact ⟨by simp, hb1.trans hb2⟩

end Go.Proofs.YtmckbcbdnckngaaGreatDoor

namespace Go.Proofs.YtmckbcbdnckngaaGreatDoor
open Go.RowKit

/-- The state of a resource. -/
structure St where
  ex : Bool
  ht : Bool
  hm : Bool
  tw : Bool
  tt : ByteArray
  md : Int
def stArr (s : St) : Array Value := #[.bool s.ex, .bool s.ht, .bool s.hm, .bool s.tw, .string s.tt, .int .i64 s.md]
/-- Does a tag match that of a state? -/
def mtT (st : St) (strong : Bool) (t : Tg) : Bool := st.ht && (if strong then (!t.1 && !st.tw && eqT t.2 st.tt) else eqT t.2 st.tt)
def matS (v : ByteArray) (st : St) (strong : Bool) : Bool := match tgO v with
  | none => false
  | some l => if isStar v then st.ex else l.any (mtT st strong)
theorem tgCells_at : ∀ (l : List Tg) (k : Nat) (h : k < l.length), (tgCells l)[k * 2]? = some (.bool l[k].1) ∧ (tgCells l)[k * 2 + 1]? = some (.string l[k].2)
  | x :: l, 0, _ => ⟨rfl, rfl⟩
  | x :: l, k + 1, h => by
    have := tgCells_at l k (by simpa using h)
    simp only [tgCells, List.flatMap_cons] at *
    rw [show (k + 1) * 2 = k * 2 + 2 by omega, show k * 2 + 2 + 1 = k * 2 + 1 + 2 by omega]
    simpa using this
theorem Rd.lenT {w : World} {A : Option Addr} {n : Nat} {ts : List Tg} (h : RdT w A n ts) : ts.length = n := by have := h.1; rw [tgCells_len] at this; omega
theorem Rd.atT {w : World} {A : Option Addr} {n : Nat} {ts : List Tg} (h : RdT w A n ts) {k : Nat} (hk : k < ts.length) :
    ∃ b o, A = some ⟨b, o, none⟩ ∧ w.cell? ⟨b, o + k * 2, none⟩ = some (.bool ts[k].1) ∧ w.cell? ⟨b, o + k * 2 + 1, none⟩ = some (.string ts[k].2) := by
  obtain ⟨b, o, e, hc⟩ := h.2 (by rw [tgCells_len]; omega)
  exact ⟨b, o, e, hc _ _ (tgCells_at _ _ hk).1, hc _ _ (tgCells_at _ _ hk).2⟩
theorem anyT_step {p : Tg → Bool} {l : List Tg} {k : Nat} (h : k < l.length) (h1 : (l.take k).any p = false) (h2 : p l[k] = false) : (l.take (k + 1)).any p = false := by
  rw [take_step l k h, List.any_append, h1]; simpa using h2
theorem anyT_yes {p : Tg → Bool} {l : List Tg} {k : Nat} (h : k < l.length) (h2 : p l[k] = true) : l.any p = true := by
  rw [List.any_eq_true]; exact ⟨l[k], List.getElem_mem h, h2⟩

set_option maxHeartbeats 2000000 in
set_option maxRecDepth 100000 in
theorem val_matches (v : ByteArray) (st : St) (strong : Bool) (w : World) (hs : v.size ≤ 1048576) :
    Calls Tryz.prog 137 #[.string v, .agg (stArr st), .bool strong] w fun e w' => e = .returned (.bool (matS v st strong)) ∧ Ext w w' := by
  have HB0 := Lib.hid (Blk.new w 187 (stArr st))
  have HE0 := Lib.hid ((Ext.refl w).alloc (.cells (stArr st) 187))
  go_enter Tryz.func137, Tryz.ntmps137
  go_wp2_with fail
  refine (val_ReadTags v _ hs).mono ?_; rintro e w1 ⟨A, n, c, rfl, hr, hc, hns, hb1⟩
  have HB1 := Lib.hid (HB0.out.ext hb1)
  have hE1 := HE0.out.trans hb1
  clear HB0 HE0
  have Hm := Lib.hid (show matS v st strong = match tgO v with | none => false | some l => if isStar v then st.ex else l.any (mtT st strong) from rfl)
  cases ho : tgO v with
  | none =>
    have HN := Lib.hid (show matS v st strong = false by rw [Hm.out, ho])
    rw [show errV (tgE none) = .iface 63 (.int .i64 2) from rfl]
    clear ho Hm
    go_wp2_with fail
    go_ret
    exact ⟨congrArg (fun x => Ending.returned (.bool x)) HN.out.symm, hE1⟩
  | some L =>
    rw [ho] at Hm hr
    rw [show errV (tgE (some L)) = .nilIface from rfl]
    clear ho
    simp only [Option.getD_some] at hr
    cases hst : isStar v
    · have HM := Lib.hid (show matS v st strong = L.any (mtT st strong) by rw [Hm.out, hst]; rfl)
      clear hst Hm
      have hl := hr.lenT
      have Hl := Lib.hid hl; clear hl
      go_wp2_with fail
      go_loopw [25] (fun i wr => ∃ k, k ≤ n ∧ i = .int .i64 (k : Nat) ∧ (L.take k).any (mtT st strong) = false ∧ Ext w1 wr) (fun i _ => n - (intOf i).toNat)
      case atStart => exact ⟨0, Nat.zero_le _, rfl, rfl, Ext.refl _⟩
      case round =>
        obtain ⟨k, hk, rfl, hall, hbr⟩ := hrel
        have Hall := Lib.hid hall; clear hall
        have hbw := hE1.trans hbr
        by_cases hlt : k < n
        · have hlt' : k < L.length := by have := Hl.out; omega
          obtain ⟨b, o, rfl, hc0, hc1⟩ := (hr.ext hbr).atT hlt'
          have Hst := Lib.hid (anyT_step (p := mtT st strong) hlt' Hall.out)
          have Hy := Lib.hid (anyT_yes (p := mtT st strong) hlt')
          have HB2 := HB1.out.ext hbr
          have hs1 : wr.cell? ⟨w.heap.size, 1, none⟩ = some (.bool st.ht) := HB2.cell 1
          have hs3 : wr.cell? ⟨w.heap.size, 3, none⟩ = some (.bool st.tw) := HB2.cell 3
          have hs4 : wr.cell? ⟨w.heap.size, 4, none⟩ = some (.string st.tt) := HB2.cell 4
          have hsz := HB2.lt
          have Hmt := Lib.hid (show mtT st strong L[k] = (st.ht && (if strong then (!L[k].1 && !st.tw && eqT L[k].2 st.tt) else eqT L[k].2 st.tt)) from rfl)
          generalize hbt : mtT st strong L[k] = bt at *
          clear hbt HB2
          generalize L[k].1 = kw at *
          generalize L[k].2 = kt at *
          generalize st.ht = ht at *
          generalize st.tw = tw at *
          generalize st.tt = tt at *
          cases ht
          · have Hf := Lib.hid (show bt = false from Hmt.out)
            go_wp2_with fail
            go_roundw
            case rel => exact ⟨k + 1, by omega, by go_num, Hst.out Hf.out, hbr.alloc _⟩
            case measure => simp [intOf]; omega
          · cases strong
            · go_wp2_with fail
              refine (val_Weak kw tw kt tt _).mono ?_; rintro e w3 ⟨rfl, hb3⟩
              have Hq := Lib.hid (show bt = eqT kt tt from Hmt.out)
              generalize eqT kt tt = q at *
              cases q
              · go_wp2_with fail
                go_roundw
                case rel => exact ⟨k + 1, by omega, by go_num, Hst.out Hq.out, (hbr.alloc _).trans hb3⟩
                case measure => simp [intOf]; omega
              · go_wp2_with fail
                go_ret
                exact ⟨congrArg (fun x => Ending.returned (.bool x)) (by rw [HM.out, Hy.out Hq.out]), (hbw.alloc _).trans hb3⟩
            · go_wp2_with fail
              refine (val_Strong kw tw kt tt _).mono ?_; rintro e w3 ⟨rfl, hb3⟩
              have Hq := Lib.hid (show bt = (!kw && !tw && eqT kt tt) from Hmt.out)
              generalize (!kw && !tw && eqT kt tt) = q at *
              cases q
              · go_wp2_with fail
                go_roundw
                case rel => exact ⟨k + 1, by omega, by go_num, Hst.out Hq.out, (hbr.alloc _).trans hb3⟩
                case measure => simp [intOf]; omega
              · go_wp2_with fail
                go_ret
                exact ⟨congrArg (fun x => Ending.returned (.bool x)) (by rw [HM.out, Hy.out Hq.out]), (hbw.alloc _).trans hb3⟩
        · have hk' : k = n := by omega
          have HF := Lib.hid (show matS v st strong = false by rw [HM.out, ← Hall.out, List.take_of_length_le (by have := Hl.out; omega)])
          go_wp2_with fail
          go_ret
          exact ⟨congrArg (fun x => Ending.returned (.bool x)) HF.out.symm, hbw⟩
    · have HM := Lib.hid (show matS v st strong = st.ex by rw [Hm.out, hst]; rfl)
      have hs0 : w1.cell? ⟨w.heap.size, 0, none⟩ = some (.bool st.ex) := HB1.out.cell 0
      clear hst Hm
      go_wp2_with fail
      go_ret
      exact ⟨congrArg (fun x => Ending.returned (.bool x)) HM.out.symm, hE1⟩

/-- A date field that is not there. -/
theorem val_date_none (A : Option Addr) (n c : Nat) (fs : List Fd) (name : ByteArray) (w : World) (hf : RdF w A n fs)
    (hn : n ≤ 1073741824) (hs : name.size ≤ 9223372036854775807) (hsz : Bsz 1048576 fs) (hT : sumF fs + 2 * n ≤ 70368744177664) (h0 : allS fs name = []) :
    Calls Tryz.prog 138 #[.slice A n c, .string name] w fun e w' => e = .returned (.tuple #[.int .i64 0, .bool false]) ∧ Ext w w' := by
  go_enter Tryz.func138, Tryz.ntmps138
  have H0 := Lib.hid h0; clear h0
  go_wp2_with fail
  refine (field_Get A n c fs name _ hf hn hs 1048576 (by decide) hsz hT).mono ?_; rintro e w1 ⟨rfl, hb1⟩
  rw [H0.out]
  rw [show joinS [] = ⟨#[]⟩ from rfl, show decide (0 < ([] : List ByteArray).length) = false from rfl]
  go_wp2_with fail
  go_ret2
  exact ⟨rfl, hb1⟩

def inmN : ByteArray := ⟨#[105, 102, 45, 110, 111, 110, 101, 45, 109, 97, 116, 99, 104]⟩
def waV : ByteArray := ⟨#[87, 47, 34, 97, 34]⟩
def awF : List Fd := [(inmN, waV)]
def awSt : St := ⟨true, true, false, false, ⟨#[97]⟩, 0⟩
def imN : ByteArray := ⟨#[105, 102, 45, 109, 97, 116, 99, 104]⟩
def iusN : ByteArray := ⟨#[105, 102, 45, 117, 110, 109, 111, 100, 105, 102, 105, 101, 100, 45, 115, 105, 110, 99, 101]⟩
theorem aw_im : allS awF imN = [] := by decide +kernel
theorem aw_ius : allS awF iusN = [] := by decide +kernel
theorem aw_inm : allS awF inmN = [waV] := by decide +kernel
theorem aw_mat : matS waV awSt false = true := by decide +kernel
theorem aw_tag : tagS waV = some (true, ⟨#[97]⟩) := by decide +kernel
theorem aw_bsz : Bsz 20 awF := by unfold Bsz; decide +kernel
theorem aw_sum : sumF awF = 18 := by decide +kernel

set_option maxHeartbeats 2000000 in
set_option maxRecDepth 100000 in
theorem eval_awake (A : Option Addr) (c : Nat) (w : World) (hf : RdF w A 1 awF) :
    Calls Tryz.prog 108 #[.string ⟨#[71, 69, 84]⟩, .slice A 1 c, .agg (stArr awSt)] w fun e w' => e = .returned (.int .i64 2) ∧ Ext w w' := by
  have hE0 := Lib.hid ((Ext.refl w).alloc (.cells (stArr awSt) 187))
  have hbz := aw_bsz.mono (show 20 ≤ 1048576 by decide)
  have HB := Lib.hid hbz; clear hbz
  go_enter Tryz.func108, Tryz.ntmps108
  unfold stArr awSt
  go_wp2_with fail
  refine (field_Get A 1 c awF imN _ (hf.ext hE0.out) (by decide) (by decide) 1048576 (by decide) HB.out (by rw [aw_sum]; decide)).mono ?_; rintro e w1 ⟨rfl, hb1⟩
  rw [aw_im]
  rw [show joinS [] = ⟨#[]⟩ from rfl, show decide (0 < ([] : List ByteArray).length) = false from rfl]
  have hB1 := Lib.hid ((Blk.new w 187 (stArr awSt)).ext hb1)
  have hE1 := hE0.out.trans hb1
  go_wp2_with fail
  refine (val_date_none A 1 c awF iusN _ (hf.ext hE1) (by decide) (by decide) HB.out (by rw [aw_sum]; decide) aw_ius).mono ?_; rintro e w2 ⟨rfl, hb2⟩
  have hE2 := hE1.trans hb2
  go_wp2_with fail
  refine (field_Get A 1 c awF inmN _ (hf.ext hE2) (by decide) (by decide) 1048576 (by decide) HB.out (by rw [aw_sum]; decide)).mono ?_; rintro e w3 ⟨rfl, hb3⟩
  rw [aw_inm]
  rw [joinS_one, show decide (0 < ([waV] : List ByteArray).length) = true from rfl]
  have hE3 := hE2.trans hb3
  have hB3 := (hB1.out.ext hb2).ext hb3
  have h0 : w3.cell? ⟨w.heap.size, 0, none⟩ = some (.bool true) := hB3.cell 0
  have h1 : w3.cell? ⟨w.heap.size, 1, none⟩ = some (.bool true) := hB3.cell 1
  have h2 : w3.cell? ⟨w.heap.size, 2, none⟩ = some (.bool false) := hB3.cell 2
  have h3 : w3.cell? ⟨w.heap.size, 3, none⟩ = some (.bool false) := hB3.cell 3
  have h4 : w3.cell? ⟨w.heap.size, 4, none⟩ = some (.string ⟨#[97]⟩) := hB3.cell 4
  have h5 : w3.cell? ⟨w.heap.size, 5, none⟩ = some (.int .i64 0) := hB3.cell 5
  go_wp2_with fail
  refine (val_matches waV awSt false _ (by decide)).mono ?_; rintro e w4 ⟨rfl, hb4⟩
  rw [aw_mat]
  go_wp2_with fail
  go_ret
  exact ⟨rfl, hE3.trans hb4⟩

end Go.Proofs.YtmckbcbdnckngaaGreatDoor

namespace Go.Proofs.YtmckbcbdnckngaaGreatDoor
/-- Is a year a leap year? -/
def lpB (y : Int) : Bool := (y % 4 == 0 && y % 100 != 0) || y % 400 == 0
def lp (y : Int) : Int := if lpB y then 1 else 0
/-- The days from 1970 to the beginning of a year. -/
def bef (y : Int) : Int := 365 * (y - 1970) + (y - 1) / 4 - (y - 1) / 100 + (y - 1) / 400 - 477
theorem lp_cases (y : Int) : (lp y = 1 ∧ ((y % 4 = 0 ∧ y % 100 ≠ 0) ∨ y % 400 = 0)) ∨ (lp y = 0 ∧ ¬ ((y % 4 = 0 ∧ y % 100 ≠ 0) ∨ y % 400 = 0)) := by
  unfold lp
  by_cases h : lpB y = true
  · left
    refine ⟨by rw [if_pos h], ?_⟩
    unfold lpB at h
    simpa using h
  · right
    refine ⟨by rw [if_neg h], ?_⟩
    unfold lpB at h
    simpa using h
theorem bef_succ (y : Int) (_ : 1 ≤ y) : bef (y + 1) = bef y + 365 + lp y := by
  unfold bef
  rcases lp_cases y with ⟨h1, h2⟩ | ⟨h1, h2⟩
  · rw [h1]; omega
  · rw [h1]; omega
theorem bef_1970 : bef 1970 = 0 := by decide
theorem bef_mono {a b : Int} (_ : 1 ≤ a) (h : a ≤ b) : bef a + 365 * (b - a) ≤ bef b := by unfold bef; omega
theorem lp_01 (y : Int) : 0 ≤ lp y ∧ lp y ≤ 1 := by rcases lp_cases y with h | h <;> omega
/-- The days of a month. -/
def ml (y m : Int) : Int := if m = 2 then 28 + lp y else if m = 4 ∨ m = 6 ∨ m = 9 ∨ m = 11 then 30 else 31
theorem ml_bd (y m : Int) : 28 ≤ ml y m ∧ ml y m ≤ 31 := by
  have := lp_01 y
  unfold ml; split
  · omega
  · split <;> omega
/-- The days of a year ahead of a month. -/
def cum (y : Int) : Nat → Int
  | 0 => 0
  | n + 1 => cum y n + (if n = 0 then 0 else ml y n)
theorem cum_1 (y : Int) : cum y 1 = 0 := rfl
theorem cum_succ (y : Int) (n : Nat) (h : 0 < n) : cum y (n + 1) = cum y n + ml y n := by
  show cum y n + _ = _
  rw [if_neg (by omega)]
theorem cum_13 (y : Int) : cum y 13 = 365 + lp y := by
  simp only [cum, ml]
  simp
  omega
theorem cum_mono (y : Int) {a b : Nat} (h : a ≤ b) : cum y a ≤ cum y b := by
  induction b with
  | zero => have : a = 0 := by omega
            subst this; exact Int.le_refl _
  | succ b ih =>
    by_cases hb : a = b + 1
    · subst hb; exact Int.le_refl _
    · have h1 := ih (by omega)
      have h2 := ml_bd y b
      show cum y a ≤ cum y b + _
      split <;> omega
/-- The day of a date. -/
def dayN (y : Int) (m : Nat) (d : Int) : Int := bef y + cum y m + d - 1
/-- A date that there is. -/
def okD (y : Int) (m : Nat) (d : Int) : Prop := 1970 ≤ y ∧ y ≤ 9999 ∧ 1 ≤ m ∧ m ≤ 12 ∧ 1 ≤ d ∧ d ≤ ml y m
theorem day_range {y : Int} {m : Nat} {d : Int} (h : okD y m d) : bef y ≤ dayN y m d ∧ dayN y m d < bef (y + 1) := by
  obtain ⟨h1, h2, h3, h4, h5, h6⟩ := h
  have a := cum_mono y h3
  rw [cum_1] at a
  have b := cum_mono y (show m + 1 ≤ 13 by omega)
  rw [cum_13, cum_succ y m (by omega)] at b
  have c := bef_succ y (by omega)
  unfold dayN
  omega
/-- A day has one date. -/
theorem day_one {y y' : Int} {m m' : Nat} {d d' : Int} (h : okD y m d) (h' : okD y' m' d') (he : dayN y m d = dayN y' m' d') : y = y' ∧ m = m' ∧ d = d' := by
  have r := day_range h
  have r' := day_range h'
  obtain ⟨h1, h2, h3, h4, h5, h6⟩ := h
  obtain ⟨k1, k2, k3, k4, k5, k6⟩ := h'
  have hy : y = y' := by
    rcases Int.lt_trichotomy y y' with hl | hl | hl
    · have := bef_mono (a := y + 1) (b := y') (by omega) (by omega); omega
    · exact hl
    · have := bef_mono (a := y' + 1) (b := y) (by omega) (by omega); omega
  subst hy
  have hm : m = m' := by
    unfold dayN at he
    rcases Nat.lt_trichotomy m m' with hl | hl | hl
    · have := cum_mono y (show m + 1 ≤ m' by omega)
      rw [cum_succ y m (by omega)] at this; omega
    · exact hl
    · have := cum_mono y (show m' + 1 ≤ m by omega)
      rw [cum_succ y m' (by omega)] at this; omega
  subst hm
  unfold dayN at he
  exact ⟨rfl, rfl, by omega⟩
theorem bef_guess (d : Int) (h : 0 ≤ d) (h2 : d ≤ 2932896) : bef (1970 + d / 366) ≤ d ∧ 1970 + d / 366 ≤ 9983 := by unfold bef; omega
theorem bef_10000 : bef 10000 = 2932897 := by decide
theorem day_bd {y : Int} {m : Nat} {d : Int} (h : okD y m d) : 0 ≤ dayN y m d ∧ dayN y m d ≤ 2932896 := by
  have r := day_range h
  have a := bef_mono (a := 1970) (b := y) (by omega) h.1
  have b := bef_mono (a := y + 1) (b := 10000) (by have := h.1; omega) (by have := h.2.1; omega)
  rw [bef_1970] at a
  rw [bef_10000] at b
  have := h.1; have := h.2.1
  omega
/-- The year of a day, by counting. -/
def yGo : Nat → Int → Int → Int
  | 0, y, _ => y
  | n + 1, y, d => if d < bef (y + 1) then y else yGo n (y + 1) d
def yOf (d : Int) : Int := yGo 8030 1970 d
def mGo : Nat → Int → Nat → Int → Nat
  | 0, _, m, _ => m
  | n + 1, y, m, r => if r < cum y (m + 1) then m else mGo n y (m + 1) r
def mOf (d : Int) : Nat := mGo 11 (yOf d) 1 (d - bef (yOf d))
def dOf (d : Int) : Int := d - bef (yOf d) - cum (yOf d) (mOf d) + 1
theorem yGo_ok : ∀ (n : Nat) (y d : Int), 1970 ≤ y → bef y ≤ d → d < bef (y + n) → bef (yGo n y d) ≤ d ∧ d < bef (yGo n y d + 1) ∧ 1970 ≤ yGo n y d ∧ yGo n y d < y + n
  | 0, y, d, h0, h1, h2 => by simp at h2; omega
  | n + 1, y, d, h0, h1, h2 => by
    unfold yGo
    split
    · rename_i h; exact ⟨h1, h, h0, by omega⟩
    · rename_i h
      have := yGo_ok n (y + 1) d (by omega) (by omega) (by rw [show y + 1 + (n : Int) = y + ((n + 1 : Nat) : Int) by omega]; exact h2)
      exact ⟨this.1, this.2.1, this.2.2.1, by omega⟩
theorem mGo_ok : ∀ (n : Nat) (y : Int) (m : Nat) (r : Int), 1 ≤ m → cum y m ≤ r → r < cum y (m + n + 1) → cum y (mGo n y m r) ≤ r ∧ r < cum y (mGo n y m r + 1) ∧ 1 ≤ mGo n y m r ∧ mGo n y m r ≤ m + n
  | 0, y, m, r, h0, h1, h2 => ⟨h1, h2, h0, Nat.le_refl _⟩
  | n + 1, y, m, r, h0, h1, h2 => by
    unfold mGo
    split
    · rename_i h; exact ⟨h1, h, h0, by omega⟩
    · rename_i h
      have := mGo_ok n y (m + 1) r (by omega) (by omega) (by rw [show m + 1 + n + 1 = m + (n + 1) + 1 by omega]; exact h2)
      exact ⟨this.1, this.2.1, this.2.2.1, by omega⟩
/-- Every day has its date. -/
theorem date_ok {d : Int} (h0 : 0 ≤ d) (h1 : d ≤ 2932896) : okD (yOf d) (mOf d) (dOf d) ∧ dayN (yOf d) (mOf d) (dOf d) = d := by
  obtain ⟨a1, a2, a3, a4⟩ := yGo_ok 8030 1970 d (Int.le_refl _) (by rw [bef_1970]; exact h0) (by rw [show (1970 : Int) + ((8030 : Nat) : Int) = 10000 by decide, bef_10000]; omega)
  have hy : yGo 8030 1970 d = yOf d := rfl
  rw [hy] at a1 a2 a3 a4
  have hs := bef_succ (yOf d) (by omega)
  obtain ⟨b1, b2, b3, b4⟩ := mGo_ok 11 (yOf d) 1 (d - bef (yOf d)) (Nat.le_refl _) (by rw [cum_1]; omega) (by rw [show 1 + 11 + 1 = 13 from rfl, cum_13]; omega)
  have hm : mGo 11 (yOf d) 1 (d - bef (yOf d)) = mOf d := rfl
  rw [hm] at b1 b2 b3 b4
  rw [cum_succ _ _ (by omega)] at b2
  refine ⟨⟨a3, by omega, b3, by omega, ?_, ?_⟩, ?_⟩
  · unfold dOf; omega
  · unfold dOf; omega
  · unfold dayN dOf; omega
end Go.Proofs.YtmckbcbdnckngaaGreatDoor

namespace Go.Proofs.YtmckbcbdnckngaaGreatDoor
open Go.RowKit

def moL : List ByteArray := [⟨#[74, 97, 110]⟩, ⟨#[70, 101, 98]⟩, ⟨#[77, 97, 114]⟩, ⟨#[65, 112, 114]⟩, ⟨#[77, 97, 121]⟩, ⟨#[74, 117, 110]⟩, ⟨#[74, 117, 108]⟩, ⟨#[65, 117, 103]⟩, ⟨#[83, 101, 112]⟩, ⟨#[79, 99, 116]⟩, ⟨#[78, 111, 118]⟩, ⟨#[68, 101, 99]⟩]
def wdL : List ByteArray := [⟨#[83, 117, 110]⟩, ⟨#[77, 111, 110]⟩, ⟨#[84, 117, 101]⟩, ⟨#[87, 101, 100]⟩, ⟨#[84, 104, 117]⟩, ⟨#[70, 114, 105]⟩, ⟨#[83, 97, 116]⟩]
def leL : List Int := [31, 28, 31, 30, 31, 30, 31, 31, 30, 31, 30, 31]
/-- The package's three tables hold what their text says. -/
def GlH (w : World) : Prop := RdS w (some ⟨1, 0, none⟩) 12 moL ∧ RdS w (some ⟨0, 0, none⟩) 7 wdL ∧ Rd w 1 (some ⟨2, 0, none⟩) 12 (leL.map (Value.int .i64))
theorem GlH.ext {w w' : World} (h : GlH w) (hb : Ext w w') : GlH w' := ⟨h.1.ext hb, h.2.1.ext hb, h.2.2.ext hb⟩
theorem GlH.len {w : World} (h : GlH w) {k : Nat} (hk : k < 12) : w.cell? ⟨2, k, none⟩ = some (.int .i64 (leL[k]'(by simpa [leL] using hk))) := by
  obtain ⟨b, o, e, hc⟩ := h.2.2.2 (by decide)
  injection e with e; injection e with e1 e2
  subst e1; subst e2
  have := hc k _ (by rw [List.getElem?_map, List.getElem?_eq_getElem (by simpa [leL] using hk)]; rfl)
  rwa [Nat.zero_add] at this
theorem GlH.mon {w : World} (h : GlH w) {k : Nat} (hk : k < 12) : w.cell? ⟨1, k, none⟩ = some (.string (moL[k]'(by simpa [moL] using hk))) := by
  obtain ⟨b, o, e, hc⟩ := h.1.atS (k := k) (by simpa [moL] using hk)
  injection e with e; injection e with e1 e2
  subst e1; subst e2
  rwa [Nat.zero_add] at hc
theorem GlH.wkd {w : World} (h : GlH w) {k : Nat} (hk : k < 7) : w.cell? ⟨0, k, none⟩ = some (.string (wdL[k]'(by simpa [wdL] using hk))) := by
  obtain ⟨b, o, e, hc⟩ := h.2.1.atS (k := k) (by simpa [wdL] using hk)
  injection e with e; injection e with e1 e2
  subst e1; subst e2
  rwa [Nat.zero_add] at hc
theorem ret_i {k : IntKind} {a b : Int} (h : a = b) : Ending.returned (.int k a) = .returned (.int k b) := by rw [h]
theorem leL_ml (y : Int) {m : Nat} (h1 : 1 ≤ m) (h2 : m ≤ 12) (h3 : m ≠ 2) : leL[m - 1]'(by show m - 1 < 12; omega) = ml y m := by
  have : m = 1 ∨ m = 3 ∨ m = 4 ∨ m = 5 ∨ m = 6 ∨ m = 7 ∨ m = 8 ∨ m = 9 ∨ m = 10 ∨ m = 11 ∨ m = 12 := by omega
  rcases this with h | h | h | h | h | h | h | h | h | h | h <;> subst h <;> rfl
theorem ml_2 (y : Int) : ml y 2 = 28 + lp y := rfl

set_option maxHeartbeats 1000000 in
theorem http_leap (y : Int) (w : World) (h0 : 0 ≤ y) (h1 : y ≤ 1000000) :
    Calls Tryz.prog 140 #[.int .i64 y] w fun e w' => e = .returned (.bool (lpB y)) ∧ w' = w := by
  have Hl := Lib.hid (show lpB y = ((y % 4 == 0 && y % 100 != 0) || y % 400 == 0) from rfl)
  generalize lpB y = b at *
  cases h4 : (y % 4 == 0) <;> cases h100 : (y % 100 == 0) <;> cases h400 : (y % 400 == 0)
  all_goals
    have hn : (y % 100 != 0) = !(y % 100 == 0) := rfl
    rw [h100] at hn
    rw [h4, hn, h400] at Hl
    simp only [Bool.not_false, Bool.not_true] at hn
    go_enter Tryz.func140, Tryz.ntmps140
    go_wp2_with fail
    go_ret
    exact ⟨congrArg (fun x => Ending.returned (.bool x)) (by rw [Hl.out]; rfl), rfl⟩

set_option maxHeartbeats 1000000 in
theorem http_month (y : Int) (m : Nat) (w : World) (h0 : 0 ≤ y) (h1 : y ≤ 1000000) (hm1 : 1 ≤ m) (hm2 : m ≤ 12) (hg : GlH w) :
    Calls Tryz.prog 112 #[.int .i64 y, .int .i64 (m : Nat)] w fun e w' => e = .returned (.int .i64 (ml y m)) ∧ w' = w := by
  by_cases h2 : m = 2
  · subst h2
    have hc := hg.len (k := 1) (by decide)
    have Hc := Lib.hid hc; clear hc
    go_enter Tryz.func112, Tryz.ntmps112
    go_wp2_with fail
    refine (http_leap y _ h0 h1).mono ?_; rintro e w1 ⟨rfl, rfl⟩
    cases hl : lpB y
    · have Hv := Lib.hid (show (28 : Int) = ml y 2 by rw [ml_2]; unfold lp; rw [hl]; rfl)
      have hc : w1.cell? ⟨2, 1, none⟩ = some (.int .i64 28) := Hc.out
      go_wp2_with fail
      go_ret
      exact ⟨ret_i Hv.out, rfl⟩
    · have Hv := Lib.hid (show (29 : Int) = ml y 2 by rw [ml_2]; unfold lp; rw [hl]; rfl)
      go_wp2_with fail
      go_ret
      exact ⟨ret_i Hv.out, rfl⟩
  · have hc := hg.len (k := m - 1) (by omega)
    have Hv := Lib.hid (leL_ml y hm1 hm2 h2)
    have hz : ((m : Int) == 2) = false := by rw [beq_eq_false_iff_ne]; omega
    generalize leL[m - 1]'(by show m - 1 < 12; omega) = L at *
    have hi : ((m : Int) - 1).toNat = m - 1 := by omega
    clear h2
    go_enter Tryz.func112, Tryz.ntmps112
    go_wp2_with fail
    go_ret
    exact ⟨ret_i Hv.out, rfl⟩

set_option maxHeartbeats 1000000 in
theorem http_before (y : Int) (w : World) (h0 : 1970 ≤ y) (h1 : y ≤ 1000000) :
    Calls Tryz.prog 111 #[.int .i64 y] w fun e w' => e = .returned (.int .i64 (bef y)) ∧ w' = w := by
  go_enter Tryz.func111, Tryz.ntmps111
  go_wp2_with fail
  go_ret
  exact ⟨ret_i (by unfold bef; rfl), rfl⟩

def wkN (d : Int) : Int := ((d % 7 + 4) % 7 + 7) % 7
theorem wkN_bd (d : Int) : 0 ≤ wkN d ∧ wkN d < 7 := by unfold wkN; omega
set_option maxHeartbeats 1000000 in
theorem http_Weekday (d : Int) (w : World) (h0 : 0 ≤ d) (h1 : d ≤ 1000000000) :
    Calls Tryz.prog 83 #[.int .i64 d] w fun e w' => e = .returned (.int .i64 (wkN d)) ∧ w' = w := by
  go_enter Tryz.func83, Tryz.ntmps83
  go_wp2_with fail
  go_ret
  exact ⟨ret_i (by unfold wkN; omega), rfl⟩

def digU (n : Int) : UInt8 := UInt8.ofNat (48 + n).toNat
def twoS (n : Int) : ByteArray := ⟨#[digU (n / 10), digU (n % 10)]⟩
theorem conv_two (a b : Int) (w : World) : (convert 23 9 (.slice (some ⟨w.heap.size, 0, none⟩) 2 2)).run Tryz.prog (w.alloc (.cells #[.int .u8 a, .int .u8 b] 5)) =
    .ok (.string ⟨#[UInt8.ofNat a.toNat, UInt8.ofNat b.toNat]⟩) (w.alloc (.cells #[.int .u8 a, .int .u8 b] 5)) :=
  run_convert_bytes_arg (P := Tryz.prog) _ 23 5 Tryz.underlying23 Tryz.underlying5 w.heap.size 0 2 2 [a, b] rfl
    (fun i hi => by
      rw [World.cell?_alloc_mark]
      have : i = 0 ∨ i = 1 := by omega
      rcases this with rfl | rfl <;> rfl) 9 Tryz.underlying9
set_option maxHeartbeats 1000000 in
theorem http_two (n : Int) (w : World) (h0 : 0 ≤ n) (h1 : n ≤ 99) :
    Calls Tryz.prog 84 #[.int .i64 n] w fun e w' => e = .returned (.string (twoS n)) ∧ Ext w w' := by
  have hcv := conv_two
  go_enter Tryz.func84, Tryz.ntmps84
  go_wp2_with fail
  go_ret
  exact ⟨congrArg (fun x => Ending.returned (.string x)) (by unfold twoS digU; rfl), (Ext.refl w).alloc _⟩

/-- The number of two digits; -1 if they are none. -/
def dgB (c : UInt8) : Bool := !(decide ((c.toNat : Int) < 48) || decide (57 < (c.toNat : Int)))
def num2 (s : ByteArray) : Int := if h : s.size = 2 then (if dgB s[0] && dgB s[1] then 10 * ((s[0].toNat : Int) - 48) + ((s[1].toNat : Int) - 48) else -1) else -1
theorem dgB_yes {c : UInt8} (h1 : ¬ (c.toNat : Int) < 48) (h2 : ¬ 57 < (c.toNat : Int)) : dgB c = true := by
  unfold dgB; rw [decide_eq_false h1, decide_eq_false h2]; rfl
theorem dgB_no {c : UInt8} (h : (c.toNat : Int) < 48 ∨ 57 < (c.toNat : Int)) : dgB c = false := by
  unfold dgB; rcases h with h | h
  · rw [decide_eq_true h]; rfl
  · rw [decide_eq_true h, Bool.or_true]; rfl
theorem num2_yes {s : ByteArray} (hs : s.size = 2) (h0 : dgB s[0] = true) (h1 : dgB s[1] = true) : num2 s = 10 * ((s[0].toNat : Int) - 48) + ((s[1].toNat : Int) - 48) := by
  unfold num2; rw [dif_pos hs, h0, h1]; rfl
theorem num2_no {s : ByteArray} (hs : s.size = 2) (h : dgB s[0] = false ∨ dgB s[1] = false) : num2 s = -1 := by
  unfold num2; rw [dif_pos hs, if_neg]
  rcases h with h | h <;> rw [h] <;> simp
theorem num2_bd (s : ByteArray) : -1 ≤ num2 s ∧ num2 s ≤ 99 := by
  unfold num2
  split
  · split
    · rename_i h
      simp only [dgB, Bool.and_eq_true, Bool.not_eq_true', Bool.or_eq_false_iff, decide_eq_false_iff_not] at h
      omega
    · omega
  · omega
end Go.Proofs.YtmckbcbdnckngaaGreatDoor

namespace Go.Proofs.YtmckbcbdnckngaaGreatDoor
open Go.RowKit

instance (y : Int) (m : Nat) (d : Int) : Decidable (okD y m d) := by unfold okD; infer_instance
/-- What Day returns. -/
def dayV (y : Int) (m : Nat) (d : Int) : Value := if okD y m d then .tuple #[.int .i64 (dayN y m d), .nilIface] else .tuple #[.int .i64 0, errV 1]
theorem dayV_yes {y : Int} {m : Nat} {d : Int} (h : okD y m d) : dayV y m d = .tuple #[.int .i64 (dayN y m d), .nilIface] := if_pos h
theorem dayV_no {y : Int} {m : Nat} {d : Int} (h : ¬ okD y m d) : dayV y m d = .tuple #[.int .i64 0, errV 1] := if_neg h
theorem ret_v {a b : Value} (h : a = b) : Ending.returned a = .returned b := by rw [h]
theorem bef_bd {y : Int} (h0 : 1970 ≤ y) (h1 : y ≤ 10000) : 0 ≤ bef y ∧ bef y ≤ 2932897 := by
  have a := bef_mono (a := 1970) (b := y) (by omega) h0
  have b := bef_mono (a := y) (b := 10000) (by omega) h1
  rw [bef_1970] at a
  rw [bef_10000] at b
  omega
theorem cum_bd (y : Int) {m : Nat} (h0 : 1 ≤ m) (h1 : m ≤ 13) : 0 ≤ cum y m ∧ cum y m ≤ 366 := by
  have a := cum_mono y h0
  have b := cum_mono y h1
  rw [cum_1] at a
  rw [cum_13] at b
  have := lp_01 y
  omega

set_option maxHeartbeats 1000000 in
theorem http_number (s : ByteArray) (w : World) (hs : s.size = 2) :
    Calls Tryz.prog 161 #[.string s] w fun e w' => e = .returned (.int .i64 (num2 s)) ∧ Ext w w' := by
  have hlt0 : 0 < s.size := by omega
  have hlt1 : 1 < s.size := by omega
  have Hno := Lib.hid (@num2_no s hs)
  have Hyes := Lib.hid (@num2_yes s hs)
  have hub0 := UInt8.toNat_lt s[0]
  have hub1 := UInt8.toNat_lt s[1]
  by_cases hd : ((s[0].toNat : Int) < 48 ∨ 57 < (s[0].toNat : Int)) ∨ ((s[1].toNat : Int) < 48 ∨ 57 < (s[1].toNat : Int))
  · have Hn := Lib.hid (Hno.out (hd.imp dgB_no dgB_no))
    go_enter Tryz.func161, Tryz.ntmps161
    by_cases a0 : (s[0].toNat : Int) < 48
    · clear hd
      go_wp2_with fail
      all_goals (go_ret; exact ⟨ret_i Hn.out.symm, Ext.refl _⟩)
    · by_cases a1 : 57 < (s[0].toNat : Int)
      · clear hd
        go_wp2_with fail
        all_goals (go_ret; exact ⟨ret_i Hn.out.symm, Ext.refl _⟩)
      · by_cases a2 : (s[1].toNat : Int) < 48
        · clear hd
          go_wp2_with fail
          all_goals (go_ret; exact ⟨ret_i Hn.out.symm, Ext.refl _⟩)
        · have a3 : 57 < (s[1].toNat : Int) := by omega
          clear hd
          go_wp2_with fail
          all_goals (go_ret; exact ⟨ret_i Hn.out.symm, Ext.refl _⟩)
  · have a0 : ¬ (s[0].toNat : Int) < 48 := by omega
    have a1 : ¬ 57 < (s[0].toNat : Int) := by omega
    have a2 : ¬ (s[1].toNat : Int) < 48 := by omega
    have a3 : ¬ 57 < (s[1].toNat : Int) := by omega
    have Hn := Lib.hid (Hyes.out (dgB_yes a0 a1) (dgB_yes a2 a3))
    clear hd
    go_enter Tryz.func161, Tryz.ntmps161
    go_wp2_with fail
    go_region
    all_goals (try go_wp2_with fail)
    all_goals (go_ret; exact ⟨ret_i Hn.out.symm, (Ext.refl _).drew⟩)

set_option maxHeartbeats 1000000 in
theorem http_Day (y : Int) (m : Nat) (d : Int) (w : World) (h0 : 0 ≤ y) (h1 : y ≤ 9999) (hm : m ≤ 12) (hd0 : -1 ≤ d) (hd1 : d ≤ 99) (hg : GlH w) :
    Calls Tryz.prog 162 #[.int .i64 y, .int .i64 (m : Nat), .int .i64 d] w fun e w' => e = .returned (dayV y m d) ∧ w' = w := by
  have Hno := Lib.hid (@dayV_no y m d)
  have Hyes := Lib.hid (@dayV_yes y m d)
  by_cases a1 : y < 1970
  · have Hn := Lib.hid (Hno.out (fun h => by have := h.1; omega))
    go_enter Tryz.func162, Tryz.ntmps162
    go_wp2_with fail
    all_goals (go_ret2; exact ⟨ret_v Hn.out.symm, rfl⟩)
  by_cases a2 : m < 1
  · have Hn := Lib.hid (Hno.out (fun h => by have := h.2.2.1; omega))
    obtain rfl : m = 0 := by omega
    have hle : ¬ (9999 : Int) < y := by omega
    go_enter Tryz.func162, Tryz.ntmps162
    go_wp2_with fail
    all_goals (go_ret2; exact ⟨ret_v Hn.out.symm, rfl⟩)
  by_cases a3 : d < 1
  · have Hn := Lib.hid (Hno.out (fun h => by have := h.2.2.2.2.1; omega))
    have hle : ¬ (9999 : Int) < y := by omega
    have hm1 : ¬ (m : Int) < 1 := by omega
    have hm2 : ¬ (12 : Int) < (m : Int) := by omega
    go_enter Tryz.func162, Tryz.ntmps162
    go_wp2_with fail
    all_goals (go_ret2; exact ⟨ret_v Hn.out.symm, rfl⟩)
  have hle : ¬ (9999 : Int) < y := by omega
  have hm1 : ¬ (m : Int) < 1 := by omega
  have hm2 : ¬ (12 : Int) < (m : Int) := by omega
  have hmo := Lib.hid (http_month y m w h0 (by omega) (by omega) hm hg)
  have hml := ml_bd y m
  by_cases a4 : ml y m < d
  · have Hn := Lib.hid (Hno.out (fun h => by have := h.2.2.2.2.2; omega))
    go_enter Tryz.func162, Tryz.ntmps162
    go_wp2_with fail
    refine hmo.out.mono ?_; rintro e w1 ⟨rfl, rfl⟩
    go_wp2_with fail
    all_goals (go_ret2; exact ⟨ret_v Hn.out.symm, rfl⟩)
  · have Hn := Lib.hid (Hyes.out ⟨by omega, by omega, by omega, hm, by omega, by omega⟩)
    have hbb := bef_bd (y := y) (by omega) (by omega)
    go_enter Tryz.func162, Tryz.ntmps162
    go_wp2_with fail
    refine hmo.out.mono ?_; rintro e w1 ⟨rfl, rfl⟩
    go_wp2_with fail
    refine (http_before y _ (by omega) (by omega)).mono ?_; rintro e w2 ⟨rfl, rfl⟩
    go_wp2_with fail
    go_loopw [8, 9] (fun n i wr => ∃ k : Nat, 1 ≤ k ∧ k ≤ m ∧ n = .int .i64 (bef y + d - 1 + cum y k) ∧ i = .int .i64 (k : Nat) ∧ wr = w2) (fun _ i _ => m - (intOf i).toNat)
    case atStart => exact ⟨1, Nat.le_refl _, by omega, by rw [cum_1, Int.add_zero], rfl, rfl⟩
    case round =>
      obtain ⟨k, hk1, hk, rfl, rfl, rfl⟩ := hrel
      have hcb := cum_bd y hk1 (by omega)
      by_cases hlt : k < m
      · have Hcs := Lib.hid (cum_succ y k (by omega))
        have hmb := ml_bd y k
        go_wp2_with fail
        refine (http_month y k _ h0 (by omega) hk1 (by omega) hg).mono ?_; rintro e w3 ⟨rfl, rfl⟩
        go_wp2_with fail
        go_roundw
        case rel => exact ⟨k + 1, by omega, by omega, by rw [Hcs.out]; go_num, by go_num, trivial⟩
        case measure => simp [intOf]; omega
      · obtain rfl : k = m := by omega
        have Hz := Lib.hid (show Value.tuple #[.int .i64 (bef y + d - 1 + cum y k), .nilIface] = dayV y k d by rw [Hn.out]; unfold dayN; rw [show bef y + d - 1 + cum y k = bef y + cum y k + d - 1 by omega])
        go_wp2_with fail
        go_ret2
        exact ⟨ret_v Hz.out, rfl⟩

theorem results_tmp4 {fn : Func} {t u v x : Tmp} (h : fn.results = #[.tmp t, .tmp u, .tmp v, .tmp x]) (tmps : Array Value) (P : Program) (w : World) :
    (results fn tmps).run P w = .ok (.tuple #[tmps.getD t undef, tmps.getD u undef, tmps.getD v undef, tmps.getD x undef]) w := by
  simp [results, h]
/-- What Date returns. -/
def dateV (d : Int) : Value := .tuple #[.int .i64 (yOf d), .int .i64 (mOf d : Nat), .int .i64 (dOf d), .nilIface]
theorem dateV_of {d y : Int} {m : Nat} {r : Int} (h0 : 0 ≤ d) (h1 : d ≤ 2932896) (hk : okD y m r) (he : dayN y m r = d) : dateV d = .tuple #[.int .i64 y, .int .i64 (m : Nat), .int .i64 r, .nilIface] := by
  obtain ⟨a, b⟩ := date_ok h0 h1
  obtain ⟨e1, e2, e3⟩ := day_one hk a (he.trans b.symm)
  unfold dateV
  rw [← e1, ← e2, ← e3]

set_option maxHeartbeats 1000000 in
theorem http_Date (d : Int) (w : World) (h0 : 0 ≤ d) (h1 : d ≤ 2932896) (hg : GlH w) :
    Calls Tryz.prog 82 #[.int .i64 d] w fun e w' => e = .returned (dateV d) ∧ w' = w := by
  have Hd := Lib.hid (fun y m r => @dateV_of d y m r)
  obtain ⟨hg1, hg2⟩ := bef_guess d h0 h1
  have Hg := Lib.hid hg1; clear hg1
  go_enter Tryz.func82, Tryz.ntmps82
  go_wp2_with fail
  go_loopw [2] (fun y wr => ∃ z : Int, 1970 ≤ z ∧ z ≤ 9999 ∧ bef z ≤ d ∧ y = .int .i64 z ∧ wr = w) (fun y _ => (9999 - intOf y).toNat)
  case atStart => exact ⟨1970 + d / 366, by omega, by omega, Hg.out, rfl, rfl⟩
  case round =>
    obtain ⟨z, hz0, hz1, hzb, rfl, rfl⟩ := hrel
    have Hzb := Lib.hid hzb
    have hbz := bef_bd hz0 (by omega)
    have hbs := bef_bd (y := z + 1) (by omega) (by omega)
    by_cases hc : z < 9999 ∧ bef (z + 1) ≤ d
    · obtain ⟨hc1, hc2⟩ := hc
      go_wp2_with fail
      refine (http_before (z + 1) _ (by omega) (by omega)).mono ?_; rintro e w1 ⟨rfl, rfl⟩
      go_wp2_with fail
      go_roundw
      case rel => exact ⟨z + 1, by omega, by omega, hc2, by go_num, trivial⟩
      case measure => simp [intOf]; omega
    · have hnx : d < bef (z + 1) := by
        by_cases hz9 : z < 9999
        · omega
        · obtain rfl : z = 9999 := by omega
          have : bef (9999 + 1) = 2932897 := bef_10000
          omega
      have Hnx := Lib.hid hnx
      have hbsu := Lib.hid (bef_succ z (by omega))
      by_cases hz9 : z < 9999
      rotate_left
      · clear hc
        go_wp2_with fail
        refine (http_before z _ (by omega) (by omega)).mono ?_; rintro e w2 ⟨rfl, rfl⟩
        go_wp2_with fail
        go_loopw [0, 3] (fun r m wr => ∃ k : Nat, 1 ≤ k ∧ k ≤ 12 ∧ r = .int .i64 (d - bef z - cum z k) ∧ 0 ≤ d - bef z - cum z k ∧ m = .int .i64 (k : Nat) ∧ wr = w2) (fun _ m _ => 12 - (intOf m).toNat)
        case atStart => exact ⟨1, Nat.le_refl _, by omega, by rw [cum_1, Int.sub_zero], by rw [cum_1]; omega, rfl, rfl⟩
        case round =>
          obtain ⟨k, hk1, hk, rfl, hr0, rfl, rfl⟩ := hrel
          have hcb := cum_bd z hk1 (by omega)
          have hmb := ml_bd z k
          have Hcs := Lib.hid (cum_succ z k (by omega))
          have hlp := lp_01 z
          by_cases hge : ml z k ≤ d - bef z - cum z k
          · have hk12 : k < 12 := by
              by_cases h12 : k < 12
              · exact h12
              · obtain rfl : k = 12 := by omega
                have a := Hcs.out
                have b := cum_13 z
                have c := hbsu.out
                have e : cum z (12 + 1) = cum z 13 := rfl
                omega
            go_wp2_with fail
            refine (http_month z k _ (by omega) (by omega) hk1 hk hg).mono ?_; rintro e w3 ⟨rfl, rfl⟩
            go_wp2_with fail
            refine (http_month z k _ (by omega) (by omega) hk1 hk hg).mono ?_; rintro e w4 ⟨rfl, rfl⟩
            go_wp2_with fail
            go_roundw
            case rel => exact ⟨k + 1, by omega, by omega, by rw [Hcs.out]; go_num, by rw [Hcs.out]; omega, by go_num, trivial⟩
            case measure => simp [intOf]; omega
          · have He := Lib.hid (Hd.out z k (d - bef z - cum z k + 1) h0 h1 ⟨hz0, hz1, hk1, hk, by omega, by omega⟩ (by unfold dayN; omega))
            go_wp2_with fail
            refine (http_month z k _ (by omega) (by omega) hk1 hk hg).mono ?_; rintro e w3 ⟨rfl, rfl⟩
            go_wp2_with fail
            (try simp only [Exit.inBlock, Exit.then]); refine bodyPost_ret (results_tmp4 rfl _ _ _) rfl ?_
            exact ⟨ret_v He.out.symm, rfl⟩
      · clear hc
        go_wp2_with fail
        refine (http_before (z + 1) _ (by omega) (by omega)).mono ?_; rintro e w1 ⟨rfl, rfl⟩
        go_wp2_with fail
        refine (http_before z _ (by omega) (by omega)).mono ?_; rintro e w2 ⟨rfl, rfl⟩
        go_wp2_with fail
        go_loopw [0, 3] (fun r m wr => ∃ k : Nat, 1 ≤ k ∧ k ≤ 12 ∧ r = .int .i64 (d - bef z - cum z k) ∧ 0 ≤ d - bef z - cum z k ∧ m = .int .i64 (k : Nat) ∧ wr = w2) (fun _ m _ => 12 - (intOf m).toNat)
        case atStart => exact ⟨1, Nat.le_refl _, by omega, by rw [cum_1, Int.sub_zero], by rw [cum_1]; omega, rfl, rfl⟩
        case round =>
          obtain ⟨k, hk1, hk, rfl, hr0, rfl, rfl⟩ := hrel
          have hcb := cum_bd z hk1 (by omega)
          have hmb := ml_bd z k
          have Hcs := Lib.hid (cum_succ z k (by omega))
          have hlp := lp_01 z
          by_cases hge : ml z k ≤ d - bef z - cum z k
          · have hk12 : k < 12 := by
              by_cases h12 : k < 12
              · exact h12
              · obtain rfl : k = 12 := by omega
                have a := Hcs.out
                have b := cum_13 z
                have c := hbsu.out
                have e : cum z (12 + 1) = cum z 13 := rfl
                omega
            go_wp2_with fail
            refine (http_month z k _ (by omega) (by omega) hk1 hk hg).mono ?_; rintro e w3 ⟨rfl, rfl⟩
            go_wp2_with fail
            refine (http_month z k _ (by omega) (by omega) hk1 hk hg).mono ?_; rintro e w4 ⟨rfl, rfl⟩
            go_wp2_with fail
            go_roundw
            case rel => exact ⟨k + 1, by omega, by omega, by rw [Hcs.out]; go_num, by rw [Hcs.out]; omega, by go_num, trivial⟩
            case measure => simp [intOf]; omega
          · have He := Lib.hid (Hd.out z k (d - bef z - cum z k + 1) h0 h1 ⟨hz0, hz1, hk1, hk, by omega, by omega⟩ (by unfold dayN; omega))
            go_wp2_with fail
            refine (http_month z k _ (by omega) (by omega) hk1 hk hg).mono ?_; rintro e w3 ⟨rfl, rfl⟩
            go_wp2_with fail
            (try simp only [Exit.inBlock, Exit.then]); refine bodyPost_ret (results_tmp4 rfl _ _ _) rfl ?_
            exact ⟨ret_v He.out.symm, rfl⟩
end Go.Proofs.YtmckbcbdnckngaaGreatDoor

namespace Go.Proofs.YtmckbcbdnckngaaGreatDoor
open Go.RowKit

/-- The text of a date out of its parts. -/
def catS (wd t1 mo t2 t3 t4 t5 t6 : ByteArray) : ByteArray :=
  wd ++ ⟨#[44, 32]⟩ ++ t1 ++ ⟨#[32]⟩ ++ mo ++ ⟨#[32]⟩ ++ t2 ++ t3 ++ ⟨#[32]⟩ ++ t4 ++ ⟨#[58]⟩ ++ t5 ++ ⟨#[58]⟩ ++ t6 ++ ⟨#[32, 71, 77, 84]⟩
def wdS (d : Int) : ByteArray := wdL.getD (wkN d).toNat ⟨#[]⟩
def moS (m : Nat) : ByteArray := moL.getD (m - 1) ⟨#[]⟩
def fmtS (n : Int) : ByteArray := catS (wdS (n / 86400)) (twoS (dOf (n / 86400))) (moS (mOf (n / 86400))) (twoS (yOf (n / 86400) / 100)) (twoS (yOf (n / 86400) % 100)) (twoS (n % 86400 / 3600)) (twoS (n % 86400 / 60 % 60)) (twoS (n % 86400 % 60))
theorem wdS_size {d : Int} : (wdS d).size = 3 := by
  have := wkN_bd d
  unfold wdS
  have h : (wkN d).toNat < 7 := by omega
  generalize (wkN d).toNat = k at *
  have : k = 0 ∨ k = 1 ∨ k = 2 ∨ k = 3 ∨ k = 4 ∨ k = 5 ∨ k = 6 := by omega
  rcases this with h | h | h | h | h | h | h <;> subst h <;> rfl
theorem moS_size {m : Nat} (h1 : 1 ≤ m) (h2 : m ≤ 12) : (moS m).size = 3 := by
  have : m = 1 ∨ m = 2 ∨ m = 3 ∨ m = 4 ∨ m = 5 ∨ m = 6 ∨ m = 7 ∨ m = 8 ∨ m = 9 ∨ m = 10 ∨ m = 11 ∨ m = 12 := by omega
  rcases this with h | h | h | h | h | h | h | h | h | h | h | h <;> subst h <;> rfl
theorem twoS_size (n : Int) : (twoS n).size = 2 := rfl
theorem GlH.monS {w : World} (h : GlH w) {m : Nat} (h1 : 1 ≤ m) (h2 : m ≤ 12) : w.cell? ⟨1, m - 1, none⟩ = some (.string (moS m)) := by
  have := h.mon (k := m - 1) (by omega)
  unfold moS
  rw [List.getD_eq_getElem?_getD, List.getElem?_eq_getElem (by show m - 1 < 12; omega)]
  exact this
theorem GlH.wkdS {w : World} (h : GlH w) (d : Int) : w.cell? ⟨0, (wkN d).toNat, none⟩ = some (.string (wdS d)) := by
  have hb := wkN_bd d
  have := h.wkd (k := (wkN d).toNat) (by omega)
  unfold wdS
  rw [List.getD_eq_getElem?_getD, List.getElem?_eq_getElem (by show (wkN d).toNat < 7; omega)]
  exact this
theorem two_at (n m : Int) (w : World) (h : n = m) (h0 : 0 ≤ m) (h1 : m ≤ 99) :
    Calls Tryz.prog 84 #[.int .i64 n] w fun e w' => e = .returned (.string (twoS m)) ∧ Ext w w' := by subst h; exact http_two n w h0 h1
theorem sum_s (a b : ByteArray) {n k : Nat} (ha : a.size = n) (hb : b.size = k) (hk : n + k ≤ 100) : (∀ w, (Op.stringOp .add a b).run Tryz.prog w = .ok (.string (a ++ b)) w) ∧ (a ++ b).size = n + k :=
  ⟨fun w => run_string_add_sum w a b (by omega), by rw [ByteArray.size_append, ha, hb]⟩

set_option maxHeartbeats 4000000 in
theorem http_Format (n : Int) (w : World) (h0 : 0 ≤ n) (h1 : n ≤ 253402300799) (hg : GlH w) :
    Calls Tryz.prog 45 #[.int .i64 n] w fun e w' => e = .returned (.tuple #[.string (fmtS n), .nilIface]) ∧ Ext w w' := by
  have hd0 : 0 ≤ n / 86400 := by omega
  have hd1 : n / 86400 ≤ 2932896 := by omega
  obtain ⟨⟨y0, y1, m0, m1, c0, c1⟩, -⟩ := date_ok hd0 hd1
  have hml := ml_bd (yOf (n / 86400)) (mOf (n / 86400))
  have hwk := wkN_bd (n / 86400)
  have hcw := hg.wkdS (n / 86400)
  have hcm := hg.monS m0 m1
  obtain ⟨F, hF⟩ : ∃ F, fmtS n = F := ⟨_, rfl⟩
  rw [hF]
  unfold fmtS catS at hF
  have Hf := Lib.hid hF; clear hF
  have hws : (wdS (n / 86400)).size = 3 := wdS_size
  have hms := moS_size m0 m1
  have hDate := http_Date (n / 86400) w hd0 hd1 hg
  have hWk := http_Weekday (n / 86400)
  unfold dateV at hDate
  generalize hdd : n / 86400 = dd at *
  generalize hrr : n % 86400 = rr at *
  have hr0 : 0 ≤ rr := by omega
  have hr1 : rr < 86400 := by omega
  generalize mOf dd = mm at *
  generalize yOf dd = yy at *
  generalize dOf dd = ee at *
  generalize wdS dd = ws at *
  generalize moS mm = ms at *
  generalize wkN dd = wk at *
  obtain ⟨s1, z1⟩ := sum_s ws ⟨#[44, 32]⟩ hws rfl (by decide)
  obtain ⟨s2, z2⟩ := sum_s _ (twoS ee) z1 (twoS_size _) (by decide)
  obtain ⟨s3, z3⟩ := sum_s _ ⟨#[32]⟩ z2 rfl (by decide)
  obtain ⟨s4, z4⟩ := sum_s _ ms z3 hms (by decide)
  obtain ⟨s5, z5⟩ := sum_s _ ⟨#[32]⟩ z4 rfl (by decide)
  obtain ⟨s6, z6⟩ := sum_s _ (twoS (yy / 100)) z5 (twoS_size _) (by decide)
  obtain ⟨s7, z7⟩ := sum_s _ (twoS (yy % 100)) z6 (twoS_size _) (by decide)
  obtain ⟨s8, z8⟩ := sum_s _ ⟨#[32]⟩ z7 rfl (by decide)
  obtain ⟨s9, z9⟩ := sum_s _ (twoS (rr / 3600)) z8 (twoS_size _) (by decide)
  obtain ⟨s10, z10⟩ := sum_s _ ⟨#[58]⟩ z9 rfl (by decide)
  obtain ⟨s11, z11⟩ := sum_s _ (twoS (rr / 60 % 60)) z10 (twoS_size _) (by decide)
  obtain ⟨s12, z12⟩ := sum_s _ ⟨#[58]⟩ z11 rfl (by decide)
  obtain ⟨s13, z13⟩ := sum_s _ (twoS (rr % 60)) z12 (twoS_size _) (by decide)
  obtain ⟨s14, z14⟩ := sum_s _ ⟨#[32, 71, 77, 84]⟩ z13 rfl (by decide)
  clear z1 z2 z3 z4 z5 z6 z7 z8 z9 z10 z11 z12 z13 z14
  have Hw := Lib.hid hWk; clear hWk
  have HD := Lib.hid hDate; clear hDate
  go_enter Tryz.func45, Tryz.ntmps45
  go_wp2_with fail
  refine HD.out.mono ?_; rintro e w1 ⟨rfl, rfl⟩
  go_wp2_with fail
  have hE := (Ext.refl w1).drew
  have j0 : (0 : Int) ≤ (mm : Int) - 1 := by omega
  have j1 : (mm : Int) - 1 < 12 := by omega
  have j2 : (mm : Int) - 1 ≤ 9223372036854775807 := by omega
  have jw : IntKind.i64.wrap ((mm : Int) - 1) = (mm : Int) - 1 := IntWalk.i64_in _ (by omega)
  have hi := show ((mm : Int) - 1).toNat = mm - 1 by omega
  have q1 : yy.tdiv 100 = yy / 100 := Int.tdiv_eq_ediv_of_nonneg (by omega)
  have q2 : yy.tmod 100 = yy % 100 := Int.tmod_eq_emod_of_nonneg (by omega)
  have q3 : rr.tdiv 3600 = rr / 3600 := Int.tdiv_eq_ediv_of_nonneg (by omega)
  have q4 : rr.tdiv 60 = rr / 60 := Int.tdiv_eq_ediv_of_nonneg (by omega)
  have q5 : (rr / 60).tmod 60 = rr / 60 % 60 := Int.tmod_eq_emod_of_nonneg (by omega)
  have q6 : rr.tmod 60 = rr % 60 := Int.tmod_eq_emod_of_nonneg (by omega)
  have k1 : IntKind.i64.wrap (yy / 100) = yy / 100 := IntWalk.i64_in _ (by omega)
  have k3 : IntKind.i64.wrap (rr / 3600) = rr / 3600 := IntWalk.i64_in _ (by omega)
  have k4 : IntKind.i64.wrap (rr / 60) = rr / 60 := IntWalk.i64_in _ (by omega)
  have b1 : 0 ≤ yy / 100 ∧ yy / 100 ≤ 99 := by omega
  have b2 : 0 ≤ yy % 100 ∧ yy % 100 ≤ 99 := by omega
  have b3 : 0 ≤ rr / 3600 ∧ rr / 3600 ≤ 99 := by omega
  have b4 : 0 ≤ rr / 60 % 60 ∧ rr / 60 % 60 ≤ 99 := by omega
  have b5 : 0 ≤ rr % 60 ∧ rr % 60 ≤ 99 := by omega
  have b0 : 0 ≤ ee ∧ ee ≤ 99 := by omega
  have HK := Lib.hid (show ∀ w', Ext w1 w' → (w'.cell? ⟨0, wk.toNat, none⟩ = some (.string ws) ∧ w'.cell? ⟨1, mm - 1, none⟩ = some (.string ms)) from fun w' h => ⟨h.cell hcw, h.cell hcm⟩)
  have j3 : (1 : Int) ≤ (mm : Int) := by omega
  have j4 : (mm : Int) < 13 := by omega
  have j5 : (mm : Int) ≤ 12 := by omega
  refine wp_region_held_drew (S := (fun w' => w'.cell? ⟨0, wk.toNat, none⟩ = some (.string ws) ∧ w'.cell? ⟨1, mm - 1, none⟩ = some (.string ms))) (by kernel_rfl) ?_ (fun hHeld => ?_)
  · (try dsimp only); exact HK.out _ hE
  refine wpAnyH_take (i := 0) (oi := { dst := some 31, op := _, type := _, pos := _, after := _, guard := _ }) (v := ?_) rfl (by kernel_rfl) (by kernel_rfl) (by kernel_rfl) (fun _ _ _ h => h) (Or.inl ⟨by rfl, ?_⟩) (by assumption) ?_
  rotate_left
  · (intro w hSw; (try dsimp only at hSw); go_simp; (try with_reducible rfl))
  (try simp only [Act.put, List.setIfInBounds_toArray, List.set_cons_zero, List.set_cons_succ])
  refine wpAnyH_take (i := 5) (oi := { dst := some 36, op := _, type := _, pos := _, after := _, guard := _ }) (v := ?_) rfl (by kernel_rfl) (by kernel_rfl) (by kernel_rfl) (fun _ _ _ h => h) (Or.inl ⟨by rfl, ?_⟩) (by assumption) ?_
  rotate_left
  · (intro w hSw; (try dsimp only at hSw); go_simp; (try with_reducible rfl))
  (try simp only [Act.put, List.setIfInBounds_toArray, List.set_cons_zero, List.set_cons_succ])
  refine wpAnyH_take (i := 9) (oi := { dst := some 40, op := _, type := _, pos := _, after := _, guard := _ }) (v := ?_) rfl (by kernel_rfl) (by kernel_rfl) (by kernel_rfl) (fun _ _ _ h => h) (Or.inl ⟨by rfl, ?_⟩) (by assumption) ?_
  rotate_left
  · (intro w hSw; (try dsimp only at hSw); go_simp; (try with_reducible rfl))
  (try simp only [Act.put, List.setIfInBounds_toArray, List.set_cons_zero, List.set_cons_succ])
  refine wpAnyH_take (i := 10) (oi := { dst := some 41, op := _, type := _, pos := _, after := _, guard := _ }) (v := ?_) rfl (by kernel_rfl) (by kernel_rfl) (by kernel_rfl) (fun _ _ _ h => h) (Or.inl ⟨by rfl, ?_⟩) (by assumption) ?_
  rotate_left
  · (intro w hSw; (try dsimp only at hSw); go_simp; (try with_reducible rfl))
  (try simp only [Act.put, List.setIfInBounds_toArray, List.set_cons_zero, List.set_cons_succ])
  refine wpAnyH_take (i := 11) (oi := { dst := some 42, op := _, type := _, pos := _, after := _, guard := _ }) (v := ?_) rfl (by kernel_rfl) (by kernel_rfl) (by kernel_rfl) (fun _ _ _ h => h) (Or.inl ⟨by rfl, ?_⟩) (by assumption) ?_
  rotate_left
  · (intro w hSw; (try dsimp only at hSw); go_simp; (try with_reducible rfl))
  (try simp only [Act.put, List.setIfInBounds_toArray, List.set_cons_zero, List.set_cons_succ])
  refine wpAnyH_take (i := 12) (oi := { dst := some 43, op := _, type := _, pos := _, after := _, guard := _ }) (v := ?_) rfl (by kernel_rfl) (by kernel_rfl) (by kernel_rfl) (fun _ _ _ h => h) (Or.inl ⟨by rfl, ?_⟩) (by assumption) ?_
  rotate_left
  · (intro w hSw; (try dsimp only at hSw); go_simp; (try with_reducible rfl))
  (try simp only [Act.put, List.setIfInBounds_toArray, List.set_cons_zero, List.set_cons_succ])
  refine wpAnyH_take (i := 15) (oi := { dst := some 46, op := _, type := _, pos := _, after := _, guard := _ }) (v := ?_) rfl (by kernel_rfl) (by kernel_rfl) (by kernel_rfl) (fun _ _ _ h => h) (Or.inl ⟨by rfl, ?_⟩) (by assumption) ?_
  rotate_left
  · (intro w hSw; (try dsimp only at hSw); go_simp; (try with_reducible rfl))
  (try simp only [Act.put, List.setIfInBounds_toArray, List.set_cons_zero, List.set_cons_succ])
  refine wpAnyH_take (i := 16) (oi := { dst := some 47, op := _, type := _, pos := _, after := _, guard := _ }) (v := ?_) rfl (by kernel_rfl) (by kernel_rfl) (by kernel_rfl) (fun _ _ _ h => h) (Or.inl ⟨by rfl, ?_⟩) (by assumption) ?_
  rotate_left
  · (intro w hSw; (try dsimp only at hSw); go_simp; (try with_reducible rfl))
  (try simp only [Act.put, List.setIfInBounds_toArray, List.set_cons_zero, List.set_cons_succ])
  refine wpAnyH_take (i := 19) (oi := { dst := some 50, op := _, type := _, pos := _, after := _, guard := _ }) (v := ?_) rfl (by kernel_rfl) (by kernel_rfl) (by kernel_rfl) (fun _ _ _ h => h) (Or.inl ⟨by rfl, ?_⟩) (by assumption) ?_
  rotate_left
  · (intro w hSw; (try dsimp only at hSw); go_simp; (try with_reducible rfl))
  (try simp only [Act.put, List.setIfInBounds_toArray, List.set_cons_zero, List.set_cons_succ])
  refine wpAnyH_take (i := 20) (oi := { dst := some 51, op := _, type := _, pos := _, after := _, guard := _ }) (v := ?_) rfl (by kernel_rfl) (by kernel_rfl) (by kernel_rfl) (fun _ _ _ h => h) (Or.inl ⟨by rfl, ?_⟩) (by assumption) ?_
  rotate_left
  · (intro w hSw; (try dsimp only at hSw); go_simp; (try with_reducible rfl))
  (try simp only [Act.put, List.setIfInBounds_toArray, List.set_cons_zero, List.set_cons_succ])
  refine wpAnyH_take (i := 24) (oi := { dst := some 55, op := _, type := _, pos := _, after := _, guard := _ }) (v := ?_) rfl (by kernel_rfl) (by kernel_rfl) (by kernel_rfl) (fun _ _ _ h => h) (Or.inl ⟨by rfl, ?_⟩) (by assumption) ?_
  rotate_left
  · (intro w hSw; (try dsimp only at hSw); go_simp; (try with_reducible rfl))
  (try simp only [Act.put, List.setIfInBounds_toArray, List.set_cons_zero, List.set_cons_succ])
  refine wpAnyH_take (i := 25) (oi := { dst := some 56, op := _, type := _, pos := _, after := _, guard := _ }) (v := ?_) rfl (by kernel_rfl) (by kernel_rfl) (by kernel_rfl) (fun _ _ _ h => h) (Or.inl ⟨by rfl, ?_⟩) (by assumption) ?_
  rotate_left
  · (intro w hSw; (try dsimp only at hSw); go_simp; (try with_reducible rfl))
  (try simp only [Act.put, List.setIfInBounds_toArray, List.set_cons_zero, List.set_cons_succ])
  refine wpAnyH_take (i := 29) (oi := { dst := some 60, op := _, type := _, pos := _, after := _, guard := _ }) (v := ?_) rfl (by kernel_rfl) (by kernel_rfl) (by kernel_rfl) (fun _ _ _ h => h) (Or.inl ⟨by rfl, ?_⟩) (by assumption) ?_
  rotate_left
  · (intro w hSw; (try dsimp only at hSw); go_simp; (try with_reducible rfl))
  (try simp only [Act.put, List.setIfInBounds_toArray, List.set_cons_zero, List.set_cons_succ])
  refine wpAnyH_take (i := 30) (oi := { dst := some 61, op := _, type := _, pos := _, after := _, guard := _ }) (v := ?_) rfl (by kernel_rfl) (by kernel_rfl) (by kernel_rfl) (fun _ _ _ h => h) (Or.inl ⟨by rfl, ?_⟩) (by assumption) ?_
  rotate_left
  · (intro w hSw; (try dsimp only at hSw); go_simp; (try with_reducible rfl))
  (try simp only [Act.put, List.setIfInBounds_toArray, List.set_cons_zero, List.set_cons_succ])
  refine wpAnyH_take (i := 31) (oi := { dst := some 62, op := _, type := _, pos := _, after := _, guard := _ }) (v := ?_) rfl (by kernel_rfl) (by kernel_rfl) (by kernel_rfl) (fun _ _ _ h => h) (Or.inl ⟨by rfl, ?_⟩) (by assumption) ?_
  rotate_left
  · (intro w hSw; (try dsimp only at hSw); go_simp; (try with_reducible rfl))
  (try simp only [Act.put, List.setIfInBounds_toArray, List.set_cons_zero, List.set_cons_succ])
  refine wpAnyH_take (i := 35) (oi := { dst := some 66, op := _, type := _, pos := _, after := _, guard := _ }) (v := ?_) rfl (by kernel_rfl) (by kernel_rfl) (by kernel_rfl) (fun _ _ _ h => h) (Or.inl ⟨by rfl, ?_⟩) (by assumption) ?_
  rotate_left
  · (intro w hSw; (try dsimp only at hSw); go_simp; (try with_reducible rfl))
  (try simp only [Act.put, List.setIfInBounds_toArray, List.set_cons_zero, List.set_cons_succ])
  refine wpAnyH_take (i := 36) (oi := { dst := some 67, op := _, type := _, pos := _, after := _, guard := _ }) (v := ?_) rfl (by kernel_rfl) (by kernel_rfl) (by kernel_rfl) (fun _ _ _ h => h) (Or.inl ⟨by rfl, ?_⟩) (by assumption) ?_
  rotate_left
  · (intro w hSw; (try dsimp only at hSw); go_simp; (try with_reducible rfl))
  (try simp only [Act.put, List.setIfInBounds_toArray, List.set_cons_zero, List.set_cons_succ])
  refine wpAnyH_ready (rs := [1]) (by kernel_rfl) (by simp) ?_
  refine AllReadyH.cons (o := { dst := some 32, op := _, type := _, pos := _, after := _, guard := _ }) rfl (fun K hK => ?_) AllReadyH.nil
  go_simp
  refine (Hw.out _ hd0 (by omega)).mono ?_; rintro e w2 ⟨rfl, rfl⟩
  try go_wp2_with fail
  refine hK.out _ _ ?_ (fun hHeld => ?_)
  · (try dsimp only); exact HK.out _ hE
  clear hK K
  (try simp only [Act.put, List.setIfInBounds_toArray, List.set_cons_zero, List.set_cons_succ])
  refine wpAnyH_take (i := 2) (oi := { dst := some 33, op := _, type := _, pos := _, after := _, guard := _ }) (v := ?_) rfl (by kernel_rfl) (by kernel_rfl) (by kernel_rfl) (fun _ _ _ h => h) (Or.inl ⟨by rfl, ?_⟩) (by assumption) ?_
  rotate_left
  · (intro w hSw; (try dsimp only at hSw); go_simp; (try with_reducible rfl))
  (try simp only [Act.put, List.setIfInBounds_toArray, List.set_cons_zero, List.set_cons_succ])
  refine wpAnyH_take (i := 3) (oi := { dst := some 34, op := _, type := _, pos := _, after := _, guard := _ }) (v := ?_) rfl (by kernel_rfl) (by kernel_rfl) (by kernel_rfl) (fun _ _ _ h => h) (Or.inl ⟨by rfl, ?_⟩) (by assumption) ?_
  rotate_left
  · (intro w hSw; (try dsimp only at hSw); go_simp; (try with_reducible rfl))
  (try simp only [Act.put, List.setIfInBounds_toArray, List.set_cons_zero, List.set_cons_succ])
  refine wpAnyH_take (i := 4) (oi := { dst := some 35, op := _, type := _, pos := _, after := _, guard := _ }) (v := ?_) rfl (by kernel_rfl) (by kernel_rfl) (by kernel_rfl) (fun _ _ _ h => h) (Or.inl ⟨by rfl, ?_⟩) (by assumption) ?_
  rotate_left
  · (intro w hSw; (try dsimp only at hSw); go_simp; (try with_reducible rfl))
  (try simp only [Act.put, List.setIfInBounds_toArray, List.set_cons_zero, List.set_cons_succ])
  refine wpAnyH_ready (rs := [6]) (by kernel_rfl) (by simp) ?_
  refine AllReadyH.cons (o := { dst := some 37, op := _, type := _, pos := _, after := _, guard := _ }) rfl (fun K hK => ?_) AllReadyH.nil
  go_simp
  refine (two_at _ (ee) _ (by rfl) b0.1 b0.2).mono ?_; rintro e w3 ⟨rfl, hb3⟩; replace hE := hE.trans hb3; clear hb3
  try go_wp2_with fail
  refine hK.out _ _ ?_ (fun hHeld => ?_)
  · (try dsimp only); exact HK.out _ hE
  clear hK K
  (try simp only [Act.put, List.setIfInBounds_toArray, List.set_cons_zero, List.set_cons_succ])
  refine wpAnyH_take (i := 7) (oi := { dst := some 38, op := _, type := _, pos := _, after := _, guard := _ }) (v := ?_) rfl (by kernel_rfl) (by kernel_rfl) (by kernel_rfl) (fun _ _ _ h => h) (Or.inl ⟨by rfl, ?_⟩) (by assumption) ?_
  rotate_left
  · (intro w hSw; (try dsimp only at hSw); go_simp; (try with_reducible rfl))
  (try simp only [Act.put, List.setIfInBounds_toArray, List.set_cons_zero, List.set_cons_succ])
  refine wpAnyH_take (i := 8) (oi := { dst := some 39, op := _, type := _, pos := _, after := _, guard := _ }) (v := ?_) rfl (by kernel_rfl) (by kernel_rfl) (by kernel_rfl) (fun _ _ _ h => h) (Or.inl ⟨by rfl, ?_⟩) (by assumption) ?_
  rotate_left
  · (intro w hSw; (try dsimp only at hSw); go_simp; (try with_reducible rfl))
  (try simp only [Act.put, List.setIfInBounds_toArray, List.set_cons_zero, List.set_cons_succ])
  refine wpAnyH_take (i := 13) (oi := { dst := some 44, op := _, type := _, pos := _, after := _, guard := _ }) (v := ?_) rfl (by kernel_rfl) (by kernel_rfl) (by kernel_rfl) (fun _ _ _ h => h) (Or.inl ⟨by rfl, ?_⟩) (by assumption) ?_
  rotate_left
  · (intro w hSw; (try dsimp only at hSw); go_simp; (try with_reducible rfl))
  (try simp only [Act.put, List.setIfInBounds_toArray, List.set_cons_zero, List.set_cons_succ])
  refine wpAnyH_take (i := 14) (oi := { dst := some 45, op := _, type := _, pos := _, after := _, guard := _ }) (v := ?_) rfl (by kernel_rfl) (by kernel_rfl) (by kernel_rfl) (fun _ _ _ h => h) (Or.inl ⟨by rfl, ?_⟩) (by assumption) ?_
  rotate_left
  · (intro w hSw; (try dsimp only at hSw); go_simp; (try with_reducible rfl))
  (try simp only [Act.put, List.setIfInBounds_toArray, List.set_cons_zero, List.set_cons_succ])
  refine wpAnyH_ready (rs := [17]) (by kernel_rfl) (by simp) ?_
  refine AllReadyH.cons (o := { dst := some 48, op := _, type := _, pos := _, after := _, guard := _ }) rfl (fun K hK => ?_) AllReadyH.nil
  go_simp
  refine (two_at _ (yy / 100) _ (by first | exact k1 | exact q1 | rfl | (rw [q1]; exact k1)) b1.1 b1.2).mono ?_; rintro e w3 ⟨rfl, hb3⟩; replace hE := hE.trans hb3; clear hb3
  try go_wp2_with fail
  refine hK.out _ _ ?_ (fun hHeld => ?_)
  · (try dsimp only); exact HK.out _ hE
  clear hK K
  (try simp only [Act.put, List.setIfInBounds_toArray, List.set_cons_zero, List.set_cons_succ])
  refine wpAnyH_take (i := 18) (oi := { dst := some 49, op := _, type := _, pos := _, after := _, guard := _ }) (v := ?_) rfl (by kernel_rfl) (by kernel_rfl) (by kernel_rfl) (fun _ _ _ h => h) (Or.inl ⟨by rfl, ?_⟩) (by assumption) ?_
  rotate_left
  · (intro w hSw; (try dsimp only at hSw); go_simp; (try with_reducible rfl))
  (try simp only [Act.put, List.setIfInBounds_toArray, List.set_cons_zero, List.set_cons_succ])
  refine wpAnyH_ready (rs := [21]) (by kernel_rfl) (by simp) ?_
  refine AllReadyH.cons (o := { dst := some 52, op := _, type := _, pos := _, after := _, guard := _ }) rfl (fun K hK => ?_) AllReadyH.nil
  go_simp
  refine (two_at _ (yy % 100) _ (by first | exact q2 | rfl) b2.1 b2.2).mono ?_; rintro e w3 ⟨rfl, hb3⟩; replace hE := hE.trans hb3; clear hb3
  try go_wp2_with fail
  refine hK.out _ _ ?_ (fun hHeld => ?_)
  · (try dsimp only); exact HK.out _ hE
  clear hK K
  (try simp only [Act.put, List.setIfInBounds_toArray, List.set_cons_zero, List.set_cons_succ])
  refine wpAnyH_take (i := 22) (oi := { dst := some 53, op := _, type := _, pos := _, after := _, guard := _ }) (v := ?_) rfl (by kernel_rfl) (by kernel_rfl) (by kernel_rfl) (fun _ _ _ h => h) (Or.inl ⟨by rfl, ?_⟩) (by assumption) ?_
  rotate_left
  · (intro w hSw; (try dsimp only at hSw); go_simp; (try with_reducible rfl))
  (try simp only [Act.put, List.setIfInBounds_toArray, List.set_cons_zero, List.set_cons_succ])
  refine wpAnyH_take (i := 23) (oi := { dst := some 54, op := _, type := _, pos := _, after := _, guard := _ }) (v := ?_) rfl (by kernel_rfl) (by kernel_rfl) (by kernel_rfl) (fun _ _ _ h => h) (Or.inl ⟨by rfl, ?_⟩) (by assumption) ?_
  rotate_left
  · (intro w hSw; (try dsimp only at hSw); go_simp; (try with_reducible rfl))
  (try simp only [Act.put, List.setIfInBounds_toArray, List.set_cons_zero, List.set_cons_succ])
  refine wpAnyH_ready (rs := [26]) (by kernel_rfl) (by simp) ?_
  refine AllReadyH.cons (o := { dst := some 57, op := _, type := _, pos := _, after := _, guard := _ }) rfl (fun K hK => ?_) AllReadyH.nil
  go_simp
  refine (two_at _ (rr / 3600) _ (by first | exact k3 | exact q3 | rfl | (rw [q3]; exact k3)) b3.1 b3.2).mono ?_; rintro e w3 ⟨rfl, hb3⟩; replace hE := hE.trans hb3; clear hb3
  try go_wp2_with fail
  refine hK.out _ _ ?_ (fun hHeld => ?_)
  · (try dsimp only); exact HK.out _ hE
  clear hK K
  (try simp only [Act.put, List.setIfInBounds_toArray, List.set_cons_zero, List.set_cons_succ])
  refine wpAnyH_take (i := 27) (oi := { dst := some 58, op := _, type := _, pos := _, after := _, guard := _ }) (v := ?_) rfl (by kernel_rfl) (by kernel_rfl) (by kernel_rfl) (fun _ _ _ h => h) (Or.inl ⟨by rfl, ?_⟩) (by assumption) ?_
  rotate_left
  · (intro w hSw; (try dsimp only at hSw); go_simp; (try with_reducible rfl))
  (try simp only [Act.put, List.setIfInBounds_toArray, List.set_cons_zero, List.set_cons_succ])
  refine wpAnyH_take (i := 28) (oi := { dst := some 59, op := _, type := _, pos := _, after := _, guard := _ }) (v := ?_) rfl (by kernel_rfl) (by kernel_rfl) (by kernel_rfl) (fun _ _ _ h => h) (Or.inl ⟨by rfl, ?_⟩) (by assumption) ?_
  rotate_left
  · (intro w hSw; (try dsimp only at hSw); go_simp; (try with_reducible rfl))
  (try simp only [Act.put, List.setIfInBounds_toArray, List.set_cons_zero, List.set_cons_succ])
  refine wpAnyH_ready (rs := [32]) (by kernel_rfl) (by simp) ?_
  refine AllReadyH.cons (o := { dst := some 63, op := _, type := _, pos := _, after := _, guard := _ }) rfl (fun K hK => ?_) AllReadyH.nil
  go_simp
  refine (two_at _ (rr / 60 % 60) _ (by first | (rw [k4]; exact q5) | exact q5 | rfl) b4.1 b4.2).mono ?_; rintro e w3 ⟨rfl, hb3⟩; replace hE := hE.trans hb3; clear hb3
  try go_wp2_with fail
  refine hK.out _ _ ?_ (fun hHeld => ?_)
  · (try dsimp only); exact HK.out _ hE
  clear hK K
  (try simp only [Act.put, List.setIfInBounds_toArray, List.set_cons_zero, List.set_cons_succ])
  refine wpAnyH_take (i := 33) (oi := { dst := some 64, op := _, type := _, pos := _, after := _, guard := _ }) (v := ?_) rfl (by kernel_rfl) (by kernel_rfl) (by kernel_rfl) (fun _ _ _ h => h) (Or.inl ⟨by rfl, ?_⟩) (by assumption) ?_
  rotate_left
  · (intro w hSw; (try dsimp only at hSw); go_simp; (try with_reducible rfl))
  (try simp only [Act.put, List.setIfInBounds_toArray, List.set_cons_zero, List.set_cons_succ])
  refine wpAnyH_take (i := 34) (oi := { dst := some 65, op := _, type := _, pos := _, after := _, guard := _ }) (v := ?_) rfl (by kernel_rfl) (by kernel_rfl) (by kernel_rfl) (fun _ _ _ h => h) (Or.inl ⟨by rfl, ?_⟩) (by assumption) ?_
  rotate_left
  · (intro w hSw; (try dsimp only at hSw); go_simp; (try with_reducible rfl))
  (try simp only [Act.put, List.setIfInBounds_toArray, List.set_cons_zero, List.set_cons_succ])
  refine wpAnyH_ready (rs := [37]) (by kernel_rfl) (by simp) ?_
  refine AllReadyH.cons (o := { dst := some 68, op := _, type := _, pos := _, after := _, guard := _ }) rfl (fun K hK => ?_) AllReadyH.nil
  go_simp
  refine (two_at _ (rr % 60) _ (by first | exact q6 | rfl) b5.1 b5.2).mono ?_; rintro e w3 ⟨rfl, hb3⟩; replace hE := hE.trans hb3; clear hb3
  try go_wp2_with fail
  refine hK.out _ _ ?_ (fun hHeld => ?_)
  · (try dsimp only); exact HK.out _ hE
  clear hK K
  (try simp only [Act.put, List.setIfInBounds_toArray, List.set_cons_zero, List.set_cons_succ])
  refine wpAnyH_take (i := 38) (oi := { dst := some 69, op := _, type := _, pos := _, after := _, guard := _ }) (v := ?_) rfl (by kernel_rfl) (by kernel_rfl) (by kernel_rfl) (fun _ _ _ h => h) (Or.inl ⟨by rfl, ?_⟩) (by assumption) ?_
  rotate_left
  · (intro w hSw; (try dsimp only at hSw); go_simp; (try with_reducible rfl))
  (try simp only [Act.put, List.setIfInBounds_toArray, List.set_cons_zero, List.set_cons_succ])
  refine wpAnyH_take (i := 39) (oi := { dst := some 70, op := _, type := _, pos := _, after := _, guard := _ }) (v := ?_) rfl (by kernel_rfl) (by kernel_rfl) (by kernel_rfl) (fun _ _ _ h => h) (Or.inl ⟨by rfl, ?_⟩) (by assumption) ?_
  rotate_left
  · (intro w hSw; (try dsimp only at hSw); go_simp; (try with_reducible rfl))
  (try simp only [Act.put, List.setIfInBounds_toArray, List.set_cons_zero, List.set_cons_succ])
  refine wpAnyH_take (i := 40) (oi := { dst := some 2, op := _, type := _, pos := _, after := _, guard := _ }) (v := ?_) rfl (by kernel_rfl) (by kernel_rfl) (by kernel_rfl) (fun _ _ _ h => h) (Or.inl ⟨by rfl, ?_⟩) (by assumption) ?_
  rotate_left
  · (intro w hSw; (try dsimp only at hSw); go_simp; (try with_reducible rfl))
  (try simp only [Act.put, List.setIfInBounds_toArray, List.set_cons_zero, List.set_cons_succ])
  refine wpAnyH_take (i := 41) (oi := { dst := some 3, op := _, type := _, pos := _, after := _, guard := _ }) (v := ?_) rfl (by kernel_rfl) (by kernel_rfl) (by kernel_rfl) (fun _ _ _ h => h) (Or.inl ⟨by rfl, ?_⟩) (by assumption) ?_
  rotate_left
  · (intro w hSw; (try dsimp only at hSw); go_simp; (try with_reducible rfl))
  (try simp only [Act.put, List.setIfInBounds_toArray, List.set_cons_zero, List.set_cons_succ])
  refine wpAnyH_done (by kernel_rfl) ?_ _
  go_wp2_with fail
  go_ret2
  exact ⟨ret_v (congrArg (fun x => Value.tuple #[.string x, .nilIface]) Hf.out), hE⟩
end Go.Proofs.YtmckbcbdnckngaaGreatDoor

namespace Go.Proofs.YtmckbcbdnckngaaGreatDoor
open Go.RowKit

/-- The number of a month's name among the first k; 0 if it is none of them. -/
def moA (t : ByteArray) : Nat → Nat
  | 0 => 0
  | k + 1 => if (t.toList == (moS (k + 1)).toList) then k + 1 else moA t k
theorem moA_yes {t : ByteArray} {k : Nat} (h : (t.toList == (moS (k + 1)).toList) = true) : moA t (k + 1) = k + 1 := if_pos h
theorem moA_no {t : ByteArray} {k : Nat} (h : (t.toList == (moS (k + 1)).toList) = false) : moA t (k + 1) = moA t k := if_neg (by rw [h]; decide)
theorem moA_le (t : ByteArray) : ∀ k, moA t k ≤ k
  | 0 => Nat.le_refl _
  | k + 1 => by
    unfold moA
    have := moA_le t k
    split <;> omega
def secN (y : Int) (m : Nat) (d h mi se : Int) : Int := 86400 * dayN y m d + 3600 * h + 60 * mi + se
/-- What Parse makes of the parts. -/
def dateQ (s : ByteArray) (d c y h mi se : Int) (m : Nat) : Option Int :=
  if d < 0 ∨ c < 0 ∨ y < 0 ∨ h < 0 ∨ 23 < h ∨ mi < 0 ∨ 59 < mi ∨ se < 0 ∨ 59 < se then none
  else if okD (100 * c + y) m d then (if ((fmtS (secN (100 * c + y) m d h mi se)).toList == s.toList) then some (secN (100 * c + y) m d h mi se) else none) else none
def dateP (s : ByteArray) : Option Int :=
  if s.size = 29 then dateQ s (num2 (s.extract 5 7)) (num2 (s.extract 12 14)) (num2 (s.extract 14 16)) (num2 (s.extract 17 19)) (num2 (s.extract 20 22)) (num2 (s.extract 23 25)) (moA (s.extract 8 11) 12) else none
def dpV : Option Int → Value
  | some n => .tuple #[.int .i64 n, .nilIface]
  | none => .tuple #[.int .i64 0, errV 2]
theorem dateQ_bad {s : ByteArray} {d c y h mi se : Int} {m : Nat} (hb : d < 0 ∨ c < 0 ∨ y < 0 ∨ h < 0 ∨ 23 < h ∨ mi < 0 ∨ 59 < mi ∨ se < 0 ∨ 59 < se) : dpV (dateQ s d c y h mi se m) = .tuple #[.int .i64 0, errV 2] := by unfold dateQ; rw [if_pos hb]; rfl
theorem dateQ_day {s : ByteArray} {d c y h mi se : Int} {m : Nat} (hd : ¬ okD (100 * c + y) m d) : dpV (dateQ s d c y h mi se m) = .tuple #[.int .i64 0, errV 2] := by unfold dateQ; rw [if_neg hd]; split <;> rfl
theorem dateQ_txt {s : ByteArray} {d c y h mi se : Int} {m : Nat} (hd : ((fmtS (secN (100 * c + y) m d h mi se)).toList == s.toList) = false) : dpV (dateQ s d c y h mi se m) = .tuple #[.int .i64 0, errV 2] := by unfold dateQ; rw [hd]; split <;> (try split) <;> rfl
theorem dateQ_yes {s : ByteArray} {d c y h mi se : Int} {m : Nat} (hb : ¬ (d < 0 ∨ c < 0 ∨ y < 0 ∨ h < 0 ∨ 23 < h ∨ mi < 0 ∨ 59 < mi ∨ se < 0 ∨ 59 < se)) (hk : okD (100 * c + y) m d)
    (hd : ((fmtS (secN (100 * c + y) m d h mi se)).toList == s.toList) = true) : dpV (dateQ s d c y h mi se m) = .tuple #[.int .i64 (secN (100 * c + y) m d h mi se), .nilIface] := by unfold dateQ; rw [if_neg hb, if_pos hk, hd]; rfl
def moV : Array Value := #[.string (moS 1), .string (moS 2), .string (moS 3), .string (moS 4), .string (moS 5), .string (moS 6), .string (moS 7), .string (moS 8), .string (moS 9), .string (moS 10), .string (moS 11), .string (moS 12)]
set_option maxRecDepth 100000 in
theorem mo_index (k : Nat) (hk : k < 12) (w : World) : (Instr.index 157 (.agg moV) (.int .i64 (k : Nat))).run Tryz.prog w = .ok (.string (moS (k + 1))) w := by
  have : k = 0 ∨ k = 1 ∨ k = 2 ∨ k = 3 ∨ k = 4 ∨ k = 5 ∨ k = 6 ∨ k = 7 ∨ k = 8 ∨ k = 9 ∨ k = 10 ∨ k = 11 := by omega
  rcases this with h | h | h | h | h | h | h | h | h | h | h | h <;> subst h <;> rfl
theorem GlH.moR {w : World} (h : GlH w) : w.rangeAt 1 0 moV.toList := by
  intro j v hv
  have hj : j < 12 := by
    have := (List.getElem?_eq_some_iff.1 hv).1
    exact this
  have := h.monS (m := j + 1) (by omega) (by omega)
  rw [Nat.zero_add]
  rw [Nat.add_sub_cancel] at this
  rw [this]
  have : j = 0 ∨ j = 1 ∨ j = 2 ∨ j = 3 ∨ j = 4 ∨ j = 5 ∨ j = 6 ∨ j = 7 ∨ j = 8 ∨ j = 9 ∨ j = 10 ∨ j = 11 := by omega
  rcases this with h | h | h | h | h | h | h | h | h | h | h | h <;> subst h <;> exact hv
theorem mo_load {w : World} (h : GlH w) : (Instr.loadAt 157 (.pointer (some ⟨1, 0, none⟩))).run Tryz.prog w = .ok (.agg moV) w :=
  run_loadAt_mid (P := Tryz.prog) w _ 0 157 moV.toList _ h.moR Tryz.underlying157 rfl (by kernel_rfl)

set_option maxHeartbeats 4000000 in
set_option maxRecDepth 100000 in
theorem http_Parse (s : ByteArray) (w : World) (_hs : s.size ≤ 140737488351232) (hg : GlH w) :
    Calls Tryz.prog 136 #[.string s] w fun e w' => e = .returned (dpV (dateP s)) ∧ Ext w w' := by
  by_cases h29 : s.size = 29
  rotate_left
  · have Hn := Lib.hid (show Value.tuple #[.int .i64 0, errV 2] = dpV (dateP s) by unfold dateP; rw [if_neg h29]; rfl)
    have hz : ((s.size : Int) == 29) = false := by rw [beq_eq_false_iff_ne]; omega
    go_enter Tryz.func136, Tryz.ntmps136
    go_wp2_with fail
    all_goals (go_ret2; exact ⟨ret_v Hn.out, Ext.refl _⟩)
  have Hp : dateP s = dateQ s (num2 (s.extract 5 7)) (num2 (s.extract 12 14)) (num2 (s.extract 14 16)) (num2 (s.extract 17 19)) (num2 (s.extract 20 22)) (num2 (s.extract 23 25)) (moA (s.extract 8 11) 12) := if_pos h29
  rw [Hp]; clear Hp
  obtain ⟨T1, hx1⟩ : ∃ T, s.extract 5 7 = T := ⟨_, rfl⟩
  obtain ⟨T2, hx2⟩ : ∃ T, s.extract 12 14 = T := ⟨_, rfl⟩
  obtain ⟨T3, hx3⟩ : ∃ T, s.extract 14 16 = T := ⟨_, rfl⟩
  obtain ⟨T4, hx4⟩ : ∃ T, s.extract 17 19 = T := ⟨_, rfl⟩
  obtain ⟨T5, hx5⟩ : ∃ T, s.extract 20 22 = T := ⟨_, rfl⟩
  obtain ⟨T6, hx6⟩ : ∃ T, s.extract 23 25 = T := ⟨_, rfl⟩
  obtain ⟨T7, hx7⟩ : ∃ T, s.extract 8 11 = T := ⟨_, rfl⟩
  obtain ⟨m, hM⟩ : ∃ m, moA T7 12 = m := ⟨_, rfl⟩
  have hm12 : m ≤ 12 := by rw [← hM]; exact moA_le T7 12
  rw [hx1, hx2, hx3, hx4, hx5, hx6, hx7, hM]
  have N1 := Lib.hid (fun w => http_number T1 w (by rw [← hx1, ByteArray.size_extract]; omega))
  have B1 := num2_bd T1
  generalize num2 T1 = d at *
  have N2 := Lib.hid (fun w => http_number T2 w (by rw [← hx2, ByteArray.size_extract]; omega))
  have B2 := num2_bd T2
  generalize num2 T2 = c at *
  have N3 := Lib.hid (fun w => http_number T3 w (by rw [← hx3, ByteArray.size_extract]; omega))
  have B3 := num2_bd T3
  generalize num2 T3 = y at *
  have N4 := Lib.hid (fun w => http_number T4 w (by rw [← hx4, ByteArray.size_extract]; omega))
  have B4 := num2_bd T4
  generalize num2 T4 = h at *
  have N5 := Lib.hid (fun w => http_number T5 w (by rw [← hx5, ByteArray.size_extract]; omega))
  have B5 := num2_bd T5
  generalize num2 T5 = mi at *
  have N6 := Lib.hid (fun w => http_number T6 w (by rw [← hx6, ByteArray.size_extract]; omega))
  have B6 := num2_bd T6
  generalize num2 T6 = se at *
  have Hbad := Lib.hid (fun m => @dateQ_bad s d c y h mi se m)
  have Hday := Lib.hid (fun m => @dateQ_day s d c y h mi se m)
  have Htxt := Lib.hid (fun m => @dateQ_txt s d c y h mi se m)
  have Hyes := Lib.hid (fun m => @dateQ_yes s d c y h mi se m)
  go_enter Tryz.func136, Tryz.ntmps136
  go_wp2_with fail
  have hE := (Ext.refl w).drew
  go_region_held3 (fun _ => True) (trivial)
    (first
      | (go_at_call_of 161 T1; refine (N1.out _).mono ?_; rintro e w2 ⟨rfl, hb2⟩; have hE := hE.trans hb2)
      | (go_at_call_of 161 T2; refine (N2.out _).mono ?_; rintro e w2 ⟨rfl, hb2⟩; have hE := hE.trans hb2)
      | (go_at_call_of 161 T3; refine (N3.out _).mono ?_; rintro e w2 ⟨rfl, hb2⟩; have hE := hE.trans hb2))
  go_wp2_with fail
  have hE := hE.drew
  go_region_held3 (fun _ => True) (trivial)
    (first
      | (go_at_call_of 161 T4; refine (N4.out _).mono ?_; rintro e w2 ⟨rfl, hb2⟩; have hE := hE.trans hb2)
      | (go_at_call_of 161 T5; refine (N5.out _).mono ?_; rintro e w2 ⟨rfl, hb2⟩; have hE := hE.trans hb2)
      | (go_at_call_of 161 T6; refine (N6.out _).mono ?_; rintro e w2 ⟨rfl, hb2⟩; have hE := hE.trans hb2))
  have hg' := hg.ext hE
  have c1 := hg'.monS (m := 1) (by decide) (by decide)
  have c2 := hg'.monS (m := 2) (by decide) (by decide)
  have c3 := hg'.monS (m := 3) (by decide) (by decide)
  have c4 := hg'.monS (m := 4) (by decide) (by decide)
  have c5 := hg'.monS (m := 5) (by decide) (by decide)
  have c6 := hg'.monS (m := 6) (by decide) (by decide)
  have c7 := hg'.monS (m := 7) (by decide) (by decide)
  have c8 := hg'.monS (m := 8) (by decide) (by decide)
  have c9 := hg'.monS (m := 9) (by decide) (by decide)
  have c10 := hg'.monS (m := 10) (by decide) (by decide)
  have c11 := hg'.monS (m := 11) (by decide) (by decide)
  have c12 := hg'.monS (m := 12) (by decide) (by decide)
  simp only [Nat.reduceSub] at c1 c2 c3 c4 c5 c6 c7 c8 c9 c10 c11 c12
  go_wp2_with fail
  have HM := Lib.hid hM; clear hM
  clear c1 c2 c3 c4 c5 c6 c7 c8 c9 c10 c11 c12
  go_loopw [10, 41] (fun m i wr => ∃ k : Nat, k ≤ 12 ∧ m = .int .i64 (moA T7 k : Nat) ∧ i = .int .i64 (k : Nat) ∧ wr = w2) (fun _ i _ => 12 - (intOf i).toNat)
  case atStart => exact ⟨0, by omega, rfl, rfl, rfl⟩
  case round =>
    obtain ⟨k, hk, hmk, rfl, rfl⟩ := hrel
    by_cases hlt : k < 12
    · subst hmk
      have hix := mo_index k hlt
      unfold moV at hix
      generalize ht : moS (k + 1) = t at *
      cases he : (T7.toList == t.toList)
      · have Hm := Lib.hid (show moA T7 (k + 1) = moA T7 k from moA_no (by rw [ht]; exact he))
        go_wp2_with fail
        go_roundw
        case rel => exact ⟨k + 1, by omega, by rw [Hm.out], by go_num, trivial⟩
        case measure => simp [intOf]; omega
      · have Hm := Lib.hid (show moA T7 (k + 1) = k + 1 from moA_yes (by rw [ht]; exact he))
        go_wp2_with fail
        go_roundw
        case rel => exact ⟨k + 1, by omega, by rw [Hm.out]; go_num, by go_num, trivial⟩
        case measure => simp [intOf]; omega
    · obtain rfl : k = 12 := by omega
      rw [HM.out] at hmk
      subst hmk
      have Hbad := Lib.hid (Hbad.out m)
      have Hday := Lib.hid (Hday.out m)
      have Htxt := Lib.hid (Htxt.out m)
      have Hyes := Lib.hid (Hyes.out m)
      by_cases a0 : d < 0
      · have Hn := Lib.hid (Hbad.out (by omega))
        go_wp2_with fail
        all_goals (go_ret2; exact ⟨ret_v Hn.out.symm, hE⟩)
      by_cases a1 : c < 0
      · have Hn := Lib.hid (Hbad.out (by omega))
        go_wp2_with fail
        all_goals (go_ret2; exact ⟨ret_v Hn.out.symm, hE⟩)
      by_cases a2 : y < 0
      · have Hn := Lib.hid (Hbad.out (by omega))
        go_wp2_with fail
        all_goals (go_ret2; exact ⟨ret_v Hn.out.symm, hE⟩)
      by_cases a3 : h < 0
      · have Hn := Lib.hid (Hbad.out (by omega))
        go_wp2_with fail
        all_goals (go_ret2; exact ⟨ret_v Hn.out.symm, hE⟩)
      by_cases a4 : 23 < h
      · have Hn := Lib.hid (Hbad.out (by omega))
        go_wp2_with fail
        all_goals (go_ret2; exact ⟨ret_v Hn.out.symm, hE⟩)
      by_cases a5 : mi < 0
      · have Hn := Lib.hid (Hbad.out (by omega))
        go_wp2_with fail
        all_goals (go_ret2; exact ⟨ret_v Hn.out.symm, hE⟩)
      by_cases a6 : 59 < mi
      · have Hn := Lib.hid (Hbad.out (by omega))
        go_wp2_with fail
        all_goals (go_ret2; exact ⟨ret_v Hn.out.symm, hE⟩)
      by_cases a7 : se < 0
      · have Hn := Lib.hid (Hbad.out (by omega))
        go_wp2_with fail
        all_goals (go_ret2; exact ⟨ret_v Hn.out.symm, hE⟩)
      by_cases a8 : 59 < se
      · have Hn := Lib.hid (Hbad.out (by omega))
        go_wp2_with fail
        all_goals (go_ret2; exact ⟨ret_v Hn.out.symm, hE⟩)
      have Hok := Lib.hid (show ¬ (d < 0 ∨ c < 0 ∨ y < 0 ∨ h < 0 ∨ 23 < h ∨ mi < 0 ∨ 59 < mi ∨ se < 0 ∨ 59 < se) by omega)
      have hdy := http_Day (100 * c + y) m d _ (by omega) (by omega) hm12 (by omega) (by omega) hg'
      by_cases hok : okD (100 * c + y) m d
      rotate_left
      · have Hn := Lib.hid (Hday.out hok)
        rw [dayV_no hok, show errV 1 = .iface 63 (.int .i64 1) from rfl] at hdy
        have Hd := Lib.hid hdy; clear hdy hok
        go_wp2_with fail
        refine Hd.out.mono ?_; rintro e w3 ⟨rfl, rfl⟩
        go_wp2_with fail
        all_goals (go_ret2; exact ⟨ret_v Hn.out.symm, hE⟩)
      rw [dayV_yes hok] at hdy
      have Hd := Lib.hid hdy; clear hdy
      obtain ⟨e0, e1⟩ := day_bd hok
      have Hyes := Lib.hid (Hyes.out Hok.out hok)
      unfold secN at Htxt Hyes
      clear hok
      generalize dayN (100 * c + y) m d = D at *
      have hfm := Lib.hid (fun w => http_Format (86400 * D + 3600 * h + 60 * mi + se) w (by omega) (by omega))
      cases hq : ((fmtS (86400 * D + 3600 * h + 60 * mi + se)).toList == s.toList)
      · have Hn := Lib.hid (Htxt.out hq)
        go_wp2_with fail
        refine Hd.out.mono ?_; rintro e w3 ⟨rfl, rfl⟩
        go_wp2_with fail
        refine (hfm.out _ hg').mono ?_; rintro e w4 ⟨rfl, hb4⟩
        go_wp2_with fail
        all_goals (go_ret2; exact ⟨ret_v Hn.out.symm, hE.trans hb4⟩)
      · have Hn := Lib.hid (Hyes.out hq)
        go_wp2_with fail
        refine Hd.out.mono ?_; rintro e w3 ⟨rfl, rfl⟩
        go_wp2_with fail
        refine (hfm.out _ hg').mono ?_; rintro e w4 ⟨rfl, hb4⟩
        go_wp2_with fail
        all_goals (go_ret2; exact ⟨ret_v Hn.out.symm, hE.trans hb4⟩)
end Go.Proofs.YtmckbcbdnckngaaGreatDoor

namespace Go.Proofs.YtmckbcbdnckngaaGreatDoor
open Go.RowKit

def getO (fs : List Fd) (name : ByteArray) : Option ByteArray := if 0 < (allS fs name).length then some (joinS (allS fs name)) else none
def getV (o : Option ByteArray) : Value := .tuple #[.string (o.getD ⟨#[]⟩), .bool o.isSome]
theorem getV_get (fs : List Fd) (name : ByteArray) : Value.tuple #[.string (joinS (allS fs name)), .bool (decide (0 < (allS fs name).length))] = getV (getO fs name) := by
  unfold getO
  cases h : allS fs name with
  | nil => rfl
  | cons a l =>
    rw [if_pos (by simp)]
    simp [getV]
def dateF (fs : List Fd) (name : ByteArray) : Option Int := (getO fs name).bind dateP
def dtV (o : Option Int) : Value := .tuple #[.int .i64 (o.getD 0), .bool o.isSome]
theorem getO_size {fs : List Fd} {name v : ByteArray} (h : getO fs name = some v) {n : Nat} (hn : fs.length = n)  : v.size ≤ sumF fs + 2 * n := by
  unfold getO at h
  split at h
  · injection h with h
    subst h
    have a := joinS_size (allS fs name)
    have b := totS_all fs name
    have c := allS_len fs name n
    rw [List.take_of_length_le (by omega)] at c
    omega
  · cases h
theorem field_GetO (A : Option Addr) (n c : Nat) (fs : List Fd) (name : ByteArray) (w : World) (hf : RdF w A n fs)
    (hn : n ≤ 1073741824) (hs : name.size ≤ 9223372036854775807) (hsz : Bsz 1048576 fs) (hT : sumF fs + 2 * n ≤ 70368744177664) :
    Calls Tryz.prog 17 #[.slice A n c, .string name] w fun e w' => e = .returned (getV (getO fs name)) ∧ Ext w w' := by
  rw [← getV_get]
  exact field_Get A n c fs name w hf hn hs 1048576 (by decide) hsz hT
set_option maxHeartbeats 1000000 in
theorem val_date (A : Option Addr) (n c : Nat) (fs : List Fd) (name : ByteArray) (w : World) (hf : RdF w A n fs)
    (hn : n ≤ 1073741824) (hs : name.size ≤ 9223372036854775807) (hsz : Bsz 1048576 fs) (hT : sumF fs + 2 * n ≤ 70368744177664) (hg : GlH w) :
    Calls Tryz.prog 138 #[.slice A n c, .string name] w fun e w' => e = .returned (dtV (dateF fs name)) ∧ Ext w w' := by
  have hG := field_GetO A n c fs name w hf hn hs hsz hT
  have Hv := Lib.hid (fun v h => Nat.le_trans (@getO_size fs name v h n hf.lenF) (show sumF fs + 2 * n ≤ 140737488351232 by omega))
  have Hd := Lib.hid (show dateF fs name = (getO fs name).bind dateP from rfl)
  generalize dateF fs name = D at *
  generalize getO fs name = o at *
  have HG := Lib.hid hG; clear hG
  go_enter Tryz.func138, Tryz.ntmps138
  go_wp2_with fail
  refine HG.out.mono ?_; rintro e w1 ⟨rfl, hb1⟩
  cases o with
  | none =>
    have HD := Lib.hid (show Value.tuple #[.int .i64 0, .bool false] = dtV D by rw [Hd.out]; rfl)
    rw [show getV none = .tuple #[.string ⟨#[]⟩, .bool false] from rfl]
    go_wp2_with fail
    go_ret2
    exact ⟨ret_v HD.out, hb1⟩
  | some v =>
    rw [show getV (some v) = .tuple #[.string v, .bool true] from rfl]
    have hP := http_Parse v
    have HD := Lib.hid (show D = dateP v from Hd.out)
    generalize dateP v = P at *
    have HP := Lib.hid hP; clear hP
    go_wp2_with fail
    refine (HP.out _ (Hv.out _ rfl) (hg.ext hb1)).mono ?_; rintro e w2 ⟨rfl, hb2⟩
    cases P with
    | none =>
      have HD := Lib.hid (show Value.tuple #[.int .i64 0, .bool false] = dtV D by rw [HD.out]; rfl)
      rw [show dpV none = .tuple #[.int .i64 0, .iface 63 (.int .i64 2)] from rfl]
      go_wp2_with fail
      go_region
      all_goals (try go_wp2_with fail)
      all_goals
        go_ret2
        exact ⟨ret_v HD.out, (hb1.trans hb2).drew⟩
    | some k =>
      have HD := Lib.hid (show Value.tuple #[.int .i64 k, .bool true] = dtV D by rw [HD.out]; rfl)
      rw [show dpV (some k) = .tuple #[.int .i64 k, .nilIface] from rfl]
      go_wp2_with fail
      go_region
      all_goals (try go_wp2_with fail)
      all_goals
        go_ret2
        exact ⟨ret_v HD.out, (hb1.trans hb2).drew⟩

def norm (s : St) : St := { s with ht := s.ht && s.ex, hm := s.hm && s.ex }
def isR (m : ByteArray) : Bool := (m.toList == [71, 69, 84]) || (m.toList == [72, 69, 65, 68])
/-- Is it failed by the first pair of conditions? (s: the state, with what is not there left out.) -/
def evA (im : Option ByteArray) (ius : Option Int) (s : St) : Bool := match im with
  | some v => !matS v s true
  | none => match ius with
    | some n => s.hm && decide (n < s.md)
    | none => false
def evB (rd : Bool) (inm : Option ByteArray) (ims : Option Int) (s : St) : Int := match inm with
  | some v => if matS v s false then (if rd then 2 else 3) else 1
  | none => match ims with
    | some n => if rd && s.hm && decide (s.md ≤ n) then 2 else 1
    | none => 1
def evS (rd : Bool) (im : Option ByteArray) (ius : Option Int) (inm : Option ByteArray) (ims : Option Int) (s : St) : Int := if evA im ius s then 3 else evB rd inm ims s
def imsN : ByteArray := ⟨#[105, 102, 45, 109, 111, 100, 105, 102, 105, 101, 100, 45, 115, 105, 110, 99, 101]⟩
def evF (m : ByteArray) (fs : List Fd) (s : St) : Int := evS (isR m) (getO fs imN) (dateF fs iusN) (getO fs inmN) (dateF fs imsN) (norm s)

set_option maxHeartbeats 40000000 in
set_option maxRecDepth 100000 in
theorem val_Evaluate (m : ByteArray) (A : Option Addr) (n c : Nat) (fs : List Fd) (st : St) (w : World) (hf : RdF w A n fs)
    (hn : n ≤ 1073741824) (hsz : Bsz 1048576 fs) (hT : sumF fs + 2 * n ≤ 70368744177664) (hT2 : sumF fs + 2 * n ≤ 1048576) (hg : GlH w) :
    Calls Tryz.prog 108 #[.string m, .slice A n c, .agg (stArr st)] w fun e w' => e = .returned (.int .i64 (evF m fs st)) ∧ Ext w w' := by
  have G1 := Lib.hid (fun w' (h : Ext w w') => field_GetO A n c fs imN w' (hf.ext h) hn (by decide) hsz hT)
  have D2 := Lib.hid (fun w' (h : Ext w w') => val_date A n c fs iusN w' (hf.ext h) hn (by decide) hsz hT (hg.ext h))
  have G3 := Lib.hid (fun w' (h : Ext w w') => field_GetO A n c fs inmN w' (hf.ext h) hn (by decide) hsz hT)
  have D4 := Lib.hid (fun w' (h : Ext w w') => val_date A n c fs imsN w' (hf.ext h) hn (by decide) hsz hT (hg.ext h))
  obtain ⟨R, hR⟩ : ∃ R, evF m fs st = R := ⟨_, rfl⟩
  rw [hR]
  unfold evF at hR
  have V1 := Lib.hid (fun v h => Nat.le_trans (@getO_size fs imN v h n hf.lenF) hT2)
  have V3 := Lib.hid (fun v h => Nat.le_trans (@getO_size fs inmN v h n hf.lenF) hT2)
  generalize dateF fs iusN = o2 at *
  generalize dateF fs imsN = o4 at *
  generalize getO fs imN = o1 at *
  generalize getO fs inmN = o3 at *
  have HI := Lib.hid (show isR m = ((m.toList == [71, 69, 84]) || (m.toList == [72, 69, 65, 68])) from rfl)
  generalize isR m = rd at *
  have HR := Lib.hid hR; clear hR
  have HB0 := Lib.hid (Blk.new w 187 (stArr st))
  have HE0 := Lib.hid ((Ext.refl w).alloc (.cells (stArr st) 187))
  go_enter Tryz.func108, Tryz.ntmps108
  go_upto_region 1 with fail
  go_cut [5] (fun x wx => x = .pointer (some ⟨w.heap.size, 0, none⟩) ∧ Blk wx w.heap.size 187 (stArr (norm st)) ∧ Ext w wx)
  case first =>
    obtain ⟨ex, ht, hm, tw, tt, md⟩ := st
    have HBo := HB0.out
    have HEo := HE0.out
    have c0 : (w.alloc (.cells (stArr ⟨ex, ht, hm, tw, tt, md⟩) 187)).cell? ⟨w.heap.size, 0, none⟩ = some (.bool ex) := HBo.cell 0
    have c1 : (w.alloc (.cells (stArr ⟨ex, ht, hm, tw, tt, md⟩) 187)).cell? ⟨w.heap.size, 1, none⟩ = some (.bool ht) := HBo.cell 1
    have c2 : (w.alloc (.cells (stArr ⟨ex, ht, hm, tw, tt, md⟩) 187)).cell? ⟨w.heap.size, 2, none⟩ = some (.bool hm) := HBo.cell 2
    cases ht <;> cases hm
    all_goals
      go_wp2_with fail
      go_meet
      exact ⟨rfl, Blk.new w _ _, (Ext.refl w).alloc _⟩
  case rest =>
    obtain ⟨rfl, hB, hE⟩ := hcut
    obtain ⟨S, hS⟩ : ∃ S, norm st = S := ⟨_, rfl⟩
    rw [hS] at hB HR
    clear hS HB0 HE0
    obtain ⟨ex, ht, hm, tw, tt, md⟩ := S
    have HA1 := Lib.hid (show evA o1 o2 ⟨ex, ht, hm, tw, tt, md⟩ = true → 3 = R from fun h => by rw [← HR.out]; unfold evS; rw [if_pos h])
    have HA0 := Lib.hid (show evA o1 o2 ⟨ex, ht, hm, tw, tt, md⟩ = false → evB rd o3 o4 ⟨ex, ht, hm, tw, tt, md⟩ = R from fun h => by rw [← HR.out]; unfold evS; rw [if_neg (by rw [h]; decide)])
    clear HR
    have HC := Lib.hid (show ∀ w', Ext wc w' → w'.cell? ⟨w.heap.size, 0, none⟩ = some (.bool ex) ∧ w'.cell? ⟨w.heap.size, 1, none⟩ = some (.bool ht) ∧ w'.cell? ⟨w.heap.size, 2, none⟩ = some (.bool hm) ∧ w'.cell? ⟨w.heap.size, 3, none⟩ = some (.bool tw) ∧ w'.cell? ⟨w.heap.size, 4, none⟩ = some (.string tt) ∧ w'.cell? ⟨w.heap.size, 5, none⟩ = some (.int .i64 md) from fun w' h => ⟨(hB.ext h).cell 0, (hB.ext h).cell 1, (hB.ext h).cell 2, (hB.ext h).cell 3, (hB.ext h).cell 4, (hB.ext h).cell 5⟩)
    clear hB
    have hE1 := Ext.refl wc
    have hi1 : (m.toList == [71, 69, 84]) = true ∨ (m.toList == [71, 69, 84]) = false := by cases (m.toList == [71, 69, 84]) <;> simp
    have hi2 : (m.toList == [72, 69, 65, 68]) = true ∨ (m.toList == [72, 69, 65, 68]) = false := by cases (m.toList == [72, 69, 65, 68]) <;> simp
    go_upto_region 2 with fail
    go_cut [7] (fun x wx => x = .bool rd ∧ wx = wc)
    case first =>
      have HI2 := HI.out
      rcases hi1 with h1 | h1 <;> rcases hi2 with h2 | h2
      all_goals
        rw [h1, h2] at HI2
        subst HI2
        go_wp2_with fail
        go_meet
        exact ⟨rfl, rfl⟩
    case rest =>
      obtain ⟨rfl, rfl⟩ := hcut
      clear hi1 hi2 HI
      go_wp2_with fail
      refine (G1.out _ hE).mono ?_; rintro e w2 ⟨rfl, hb2⟩
      cases o1 with
      | none =>
        rw [show getV none = .tuple #[.string ⟨#[]⟩, .bool false] from rfl]
        go_wp2_with fail
        refine (D2.out _ (hE.trans hb2)).mono ?_; rintro e w3 ⟨rfl, hb3⟩
        have hEa := hb2.trans hb3
        obtain ⟨d0, d1, d2, d3, d4, d5⟩ := HC.out _ hEa
        cases o2 with
        | none =>
          rw [show dtV none = .tuple #[.int .i64 0, .bool false] from rfl]
          have HV := Lib.hid (HA0.out rfl)
          go_wp2_with fail
          refine (G3.out _ (hE.trans hEa)).mono ?_; rintro e w4 ⟨rfl, hb4⟩
          cases o3 with
          | none =>
            rw [show getV none = .tuple #[.string ⟨#[]⟩, .bool false] from rfl]
            have hEb := hEa.trans hb4
            go_wp2_with fail
            refine (D4.out _ (hE.trans hEb)).mono ?_; rintro e w5 ⟨rfl, hb5⟩
            have hEc := hEb.trans hb5
            obtain ⟨c0, c1, c2, c3, c4, c5⟩ := HC.out _ hEc
            cases o4 with
            | none =>
              rw [show dtV none = .tuple #[.int .i64 0, .bool false] from rfl]
              have HL := Lib.hid (show 1 = R from HV.out)
              go_wp2_with fail
              go_ret
              exact ⟨ret_i HL.out, hE.trans hEc⟩
            | some j =>
              rw [show dtV (some j) = .tuple #[.int .i64 j, .bool true] from rfl]
              cases rd
              · have HL := Lib.hid (show 1 = R from HV.out)
                go_wp2_with fail
                go_ret
                exact ⟨ret_i HL.out, hE.trans hEc⟩
              · cases hm
                · have HL := Lib.hid (show 1 = R from HV.out)
                  go_wp2_with fail
                  go_ret
                  exact ⟨ret_i HL.out, hE.trans hEc⟩
                · have HL := Lib.hid (show (if decide (md ≤ j) then 2 else 1) = R from HV.out)
                  by_cases hj : md ≤ j
                  · rw [decide_eq_true hj] at HL
                    go_wp2_with fail
                    go_ret
                    exact ⟨ret_i HL.out, hE.trans hEc⟩
                  · rw [decide_eq_false hj] at HL
                    go_wp2_with fail
                    go_ret
                    exact ⟨ret_i HL.out, hE.trans hEc⟩
          | some u =>
            rw [show getV (some u) = .tuple #[.string u, .bool true] from rfl]
            have hEb := hEa.trans hb4
            obtain ⟨c0, c1, c2, c3, c4, c5⟩ := HC.out _ hEb
            have HL := Lib.hid (show (if matS u ⟨ex, ht, hm, tw, tt, md⟩ false then (if rd then 2 else 3) else 1) = R from HV.out)
            have hMa := fun w => val_matches u ⟨ex, ht, hm, tw, tt, md⟩ false w (V3.out _ rfl)
            generalize matS u ⟨ex, ht, hm, tw, tt, md⟩ false = q at *
            have HM := Lib.hid hMa; clear hMa
            go_wp2_with fail
            refine (HM.out _).mono ?_; rintro e w5 ⟨rfl, hb5⟩
            have hEc := hEb.trans hb5
            cases q
            · go_wp2_with fail
              go_ret
              exact ⟨ret_i HL.out, hE.trans hEc⟩
            · cases rd
              · go_wp2_with fail
                go_ret
                exact ⟨ret_i HL.out, hE.trans hEc⟩
              · go_wp2_with fail
                go_ret
                exact ⟨ret_i HL.out, hE.trans hEc⟩
        | some k =>
          rw [show dtV (some k) = .tuple #[.int .i64 k, .bool true] from rfl]
          cases hm
          · skip
            have HV := Lib.hid (HA0.out rfl)
            go_wp2_with fail
            refine (G3.out _ (hE.trans hEa)).mono ?_; rintro e w4 ⟨rfl, hb4⟩
            cases o3 with
            | none =>
              rw [show getV none = .tuple #[.string ⟨#[]⟩, .bool false] from rfl]
              have hEb := hEa.trans hb4
              go_wp2_with fail
              refine (D4.out _ (hE.trans hEb)).mono ?_; rintro e w5 ⟨rfl, hb5⟩
              have hEc := hEb.trans hb5
              obtain ⟨c0, c1, c2, c3, c4, c5⟩ := HC.out _ hEc
              cases o4 with
              | none =>
                rw [show dtV none = .tuple #[.int .i64 0, .bool false] from rfl]
                have HL := Lib.hid (show 1 = R from HV.out)
                go_wp2_with fail
                go_ret
                exact ⟨ret_i HL.out, hE.trans hEc⟩
              | some j =>
                rw [show dtV (some j) = .tuple #[.int .i64 j, .bool true] from rfl]
                cases rd
                · have HL := Lib.hid (show 1 = R from HV.out)
                  go_wp2_with fail
                  go_ret
                  exact ⟨ret_i HL.out, hE.trans hEc⟩
                · have HL := Lib.hid (show 1 = R from HV.out)
                  go_wp2_with fail
                  go_ret
                  exact ⟨ret_i HL.out, hE.trans hEc⟩
            | some u =>
              rw [show getV (some u) = .tuple #[.string u, .bool true] from rfl]
              have hEb := hEa.trans hb4
              obtain ⟨c0, c1, c2, c3, c4, c5⟩ := HC.out _ hEb
              have HL := Lib.hid (show (if matS u ⟨ex, ht, false, tw, tt, md⟩ false then (if rd then 2 else 3) else 1) = R from HV.out)
              have hMa := fun w => val_matches u ⟨ex, ht, false, tw, tt, md⟩ false w (V3.out _ rfl)
              generalize matS u ⟨ex, ht, false, tw, tt, md⟩ false = q at *
              have HM := Lib.hid hMa; clear hMa
              go_wp2_with fail
              refine (HM.out _).mono ?_; rintro e w5 ⟨rfl, hb5⟩
              have hEc := hEb.trans hb5
              cases q
              · go_wp2_with fail
                go_ret
                exact ⟨ret_i HL.out, hE.trans hEc⟩
              · cases rd
                · go_wp2_with fail
                  go_ret
                  exact ⟨ret_i HL.out, hE.trans hEc⟩
                · go_wp2_with fail
                  go_ret
                  exact ⟨ret_i HL.out, hE.trans hEc⟩
          · by_cases hk : k < md
            · have HL := Lib.hid (HA1.out (decide_eq_true hk))
              go_wp2_with fail
              go_ret
              exact ⟨ret_i HL.out, hE.trans hEa⟩
            · have hk2 := decide_eq_false hk
              have HV := Lib.hid (HA0.out hk2)
              go_wp2_with fail
              refine (G3.out _ (hE.trans hEa)).mono ?_; rintro e w4 ⟨rfl, hb4⟩
              cases o3 with
              | none =>
                rw [show getV none = .tuple #[.string ⟨#[]⟩, .bool false] from rfl]
                have hEb := hEa.trans hb4
                go_wp2_with fail
                refine (D4.out _ (hE.trans hEb)).mono ?_; rintro e w5 ⟨rfl, hb5⟩
                have hEc := hEb.trans hb5
                obtain ⟨c0, c1, c2, c3, c4, c5⟩ := HC.out _ hEc
                cases o4 with
                | none =>
                  rw [show dtV none = .tuple #[.int .i64 0, .bool false] from rfl]
                  have HL := Lib.hid (show 1 = R from HV.out)
                  go_wp2_with fail
                  go_ret
                  exact ⟨ret_i HL.out, hE.trans hEc⟩
                | some j =>
                  rw [show dtV (some j) = .tuple #[.int .i64 j, .bool true] from rfl]
                  cases rd
                  · have HL := Lib.hid (show 1 = R from HV.out)
                    go_wp2_with fail
                    go_ret
                    exact ⟨ret_i HL.out, hE.trans hEc⟩
                  · have HL := Lib.hid (show (if decide (md ≤ j) then 2 else 1) = R from HV.out)
                    by_cases hj : md ≤ j
                    · rw [decide_eq_true hj] at HL
                      go_wp2_with fail
                      go_ret
                      exact ⟨ret_i HL.out, hE.trans hEc⟩
                    · rw [decide_eq_false hj] at HL
                      go_wp2_with fail
                      go_ret
                      exact ⟨ret_i HL.out, hE.trans hEc⟩
              | some u =>
                rw [show getV (some u) = .tuple #[.string u, .bool true] from rfl]
                have hEb := hEa.trans hb4
                obtain ⟨c0, c1, c2, c3, c4, c5⟩ := HC.out _ hEb
                have HL := Lib.hid (show (if matS u ⟨ex, ht, true, tw, tt, md⟩ false then (if rd then 2 else 3) else 1) = R from HV.out)
                have hMa := fun w => val_matches u ⟨ex, ht, true, tw, tt, md⟩ false w (V3.out _ rfl)
                generalize matS u ⟨ex, ht, true, tw, tt, md⟩ false = q at *
                have HM := Lib.hid hMa; clear hMa
                go_wp2_with fail
                refine (HM.out _).mono ?_; rintro e w5 ⟨rfl, hb5⟩
                have hEc := hEb.trans hb5
                cases q
                · go_wp2_with fail
                  go_ret
                  exact ⟨ret_i HL.out, hE.trans hEc⟩
                · cases rd
                  · go_wp2_with fail
                    go_ret
                    exact ⟨ret_i HL.out, hE.trans hEc⟩
                  · go_wp2_with fail
                    go_ret
                    exact ⟨ret_i HL.out, hE.trans hEc⟩
      | some v =>
        rw [show getV (some v) = .tuple #[.string v, .bool true] from rfl]
        obtain ⟨d0, d1, d2, d3, d4, d5⟩ := HC.out _ hb2
        have hMa := fun w => val_matches v ⟨ex, ht, hm, tw, tt, md⟩ true w (V1.out _ rfl)
        have HQ := Lib.hid (show evA (some v) o2 ⟨ex, ht, hm, tw, tt, md⟩ = !matS v ⟨ex, ht, hm, tw, tt, md⟩ true from rfl)
        generalize matS v ⟨ex, ht, hm, tw, tt, md⟩ true = q0 at *
        have HM := Lib.hid hMa; clear hMa
        go_wp2_with fail
        refine (HM.out _).mono ?_; rintro e w3 ⟨rfl, hb3⟩
        have hEa := hb2.trans hb3
        cases q0
        · have HL := Lib.hid (HA1.out HQ.out)
          go_wp2_with fail
          go_ret
          exact ⟨ret_i HL.out, hE.trans hEa⟩
        · skip
          have HV := Lib.hid (HA0.out HQ.out)
          go_wp2_with fail
          refine (G3.out _ (hE.trans hEa)).mono ?_; rintro e w4 ⟨rfl, hb4⟩
          cases o3 with
          | none =>
            rw [show getV none = .tuple #[.string ⟨#[]⟩, .bool false] from rfl]
            have hEb := hEa.trans hb4
            go_wp2_with fail
            refine (D4.out _ (hE.trans hEb)).mono ?_; rintro e w5 ⟨rfl, hb5⟩
            have hEc := hEb.trans hb5
            obtain ⟨c0, c1, c2, c3, c4, c5⟩ := HC.out _ hEc
            cases o4 with
            | none =>
              rw [show dtV none = .tuple #[.int .i64 0, .bool false] from rfl]
              have HL := Lib.hid (show 1 = R from HV.out)
              go_wp2_with fail
              go_ret
              exact ⟨ret_i HL.out, hE.trans hEc⟩
            | some j =>
              rw [show dtV (some j) = .tuple #[.int .i64 j, .bool true] from rfl]
              cases rd
              · have HL := Lib.hid (show 1 = R from HV.out)
                go_wp2_with fail
                go_ret
                exact ⟨ret_i HL.out, hE.trans hEc⟩
              · cases hm
                · have HL := Lib.hid (show 1 = R from HV.out)
                  go_wp2_with fail
                  go_ret
                  exact ⟨ret_i HL.out, hE.trans hEc⟩
                · have HL := Lib.hid (show (if decide (md ≤ j) then 2 else 1) = R from HV.out)
                  by_cases hj : md ≤ j
                  · rw [decide_eq_true hj] at HL
                    go_wp2_with fail
                    go_ret
                    exact ⟨ret_i HL.out, hE.trans hEc⟩
                  · rw [decide_eq_false hj] at HL
                    go_wp2_with fail
                    go_ret
                    exact ⟨ret_i HL.out, hE.trans hEc⟩
          | some u =>
            rw [show getV (some u) = .tuple #[.string u, .bool true] from rfl]
            have hEb := hEa.trans hb4
            obtain ⟨c0, c1, c2, c3, c4, c5⟩ := HC.out _ hEb
            have HL := Lib.hid (show (if matS u ⟨ex, ht, hm, tw, tt, md⟩ false then (if rd then 2 else 3) else 1) = R from HV.out)
            have hMa := fun w => val_matches u ⟨ex, ht, hm, tw, tt, md⟩ false w (V3.out _ rfl)
            generalize matS u ⟨ex, ht, hm, tw, tt, md⟩ false = q at *
            have HM := Lib.hid hMa; clear hMa
            go_wp2_with fail
            refine (HM.out _).mono ?_; rintro e w5 ⟨rfl, hb5⟩
            have hEc := hEb.trans hb5
            cases q
            · go_wp2_with fail
              go_ret
              exact ⟨ret_i HL.out, hE.trans hEc⟩
            · cases rd
              · go_wp2_with fail
                go_ret
                exact ⟨ret_i HL.out, hE.trans hEc⟩
              · go_wp2_with fail
                go_ret
                exact ⟨ret_i HL.out, hE.trans hEc⟩
end Go.Proofs.YtmckbcbdnckngaaGreatDoor

namespace Go.Proofs.YtmckbcbdnckngaaGreatDoor
open Go.RowKit

def day2V (y : Int) (m : Nat) (d : Int) : Value := if okD y m d then .tuple #[.int .i64 (dayN y m d), .bool true] else .tuple #[.int .i64 0, .bool false]
theorem day2V_yes {y : Int} {m : Nat} {d : Int} (h : okD y m d) : day2V y m d = .tuple #[.int .i64 (dayN y m d), .bool true] := if_pos h
theorem day2V_no {y : Int} {m : Nat} {d : Int} (h : ¬ okD y m d) : day2V y m d = .tuple #[.int .i64 0, .bool false] := if_neg h

def date3V (d : Int) : Value := .tuple #[.int .i64 (yOf d), .int .i64 (mOf d : Nat), .int .i64 (dOf d)]
theorem date3V_of {d y : Int} {m : Nat} {r : Int} (h0 : 0 ≤ d) (h1 : d ≤ 2932896) (hk : okD y m r) (he : dayN y m r = d) : date3V d = .tuple #[.int .i64 y, .int .i64 (m : Nat), .int .i64 r] := by
  obtain ⟨a, b⟩ := date_ok h0 h1
  obtain ⟨e1, e2, e3⟩ := day_one hk a (he.trans b.symm)
  unfold date3V
  rw [← e1, ← e2, ← e3]

end Go.Proofs.YtmckbcbdnckngaaGreatDoor

namespace Go.Proofs.YtmckbcbdnckngaaGreatDoor
open Go.RowKit

def ndg (c : UInt8) : Bool := !dgB c
def numF (n : Int) : List UInt8 → Int
  | [] => n
  | c :: l => numF (10 * n + ((c.toNat : Int) - 48)) l
theorem numF_app : ∀ (l : List UInt8) (n : Int) (c : UInt8), numF n (l ++ [c]) = 10 * numF n l + ((c.toNat : Int) - 48)
  | [], _, _ => rfl
  | _ :: l, _, c => numF_app l _ c
theorem dgB_bd {c : UInt8} (h : dgB c = true) : 48 ≤ (c.toNat : Int) ∧ (c.toNat : Int) ≤ 57 := by
  simp only [dgB, Bool.not_eq_true', Bool.or_eq_false_iff, decide_eq_false_iff_not] at h
  omega
theorem numF_bd : ∀ (l : List UInt8) (n : Int), 0 ≤ n → l.any ndg = false → 0 ≤ numF n l ∧ numF n l < (n + 1) * 10 ^ l.length
  | [], n, h, _ => by simp [numF]; omega
  | c :: l, n, h, ha => by
    simp only [List.any_cons, Bool.or_eq_false_iff, ndg, Bool.not_eq_false'] at ha
    have hc := dgB_bd ha.1
    have := numF_bd l (10 * n + ((c.toNat : Int) - 48)) (by omega) ha.2
    refine ⟨this.1, Int.lt_of_lt_of_le this.2 ?_⟩
    rw [List.length_cons, Int.pow_succ, Int.mul_comm (10 ^ _) 10, ← Int.mul_assoc]
    exact Int.mul_le_mul_of_nonneg_right (by omega) (Int.pow_nonneg (by decide))
def numS (s : ByteArray) : Int := if s.data.toList.any ndg then -1 else numF 0 s.data.toList
theorem tk_step (s : ByteArray) {k : Nat} (h : k < s.size) : s.data.toList.take (k + 1) = s.data.toList.take k ++ [s[k]] := by
  rw [List.take_add_one, List.getElem?_eq_getElem (by simpa using h)]
  rfl
theorem ndg_any {s : ByteArray} {k : Nat} (h : k < s.size) (h2 : ndg s[k] = true) : s.data.toList.any ndg = true := by
  have h2 : ndg s.data[k] = true := h2
  rw [List.any_eq_true]
  exact ⟨s.data[k], by simp, h2⟩
def ndK (n : Int) : Nat → Int
  | 0 => n
  | k + 1 => ndK n k / 10
def ouK (n : Int) : Nat → ByteArray
  | 0 => ⟨#[]⟩
  | k + 1 => ⟨#[digU (ndK n k % 10)]⟩ ++ ouK n k
theorem ndK_bd {n : Int} (h0 : 0 ≤ n) (h1 : n ≤ 9999) : ∀ k, 0 ≤ ndK n k ∧ ndK n k ≤ 9999
  | 0 => ⟨h0, h1⟩
  | k + 1 => by
    have := ndK_bd h0 h1 k
    unfold ndK
    omega
theorem ouK_size (n : Int) : ∀ k, (ouK n k).size = k
  | 0 => rfl
  | k + 1 => by
    unfold ouK
    rw [ByteArray.size_append, ouK_size n k]
    show 1 + k = k + 1
    omega
theorem ouK_2 {n : Int} (h0 : 0 ≤ n) (h1 : n ≤ 99) : ouK n 2 = twoS n := by
  have h : n / 10 % 10 = n / 10 := by omega
  have e : ouK n 2 = ⟨#[digU (n / 10 % 10), digU (n % 10)]⟩ := rfl
  rw [e, h]
  rfl
theorem ouK_4 {n : Int} (h0 : 0 ≤ n) (h1 : n ≤ 9999) : ouK n 4 = twoS (n / 100) ++ twoS (n % 100) := by
  have e : ouK n 4 = ⟨#[digU (n / 10 / 10 / 10 % 10), digU (n / 10 / 10 % 10), digU (n / 10 % 10), digU (n % 10)]⟩ := rfl
  have f : twoS (n / 100) ++ twoS (n % 100) = ⟨#[digU (n / 100 / 10), digU (n / 100 % 10), digU (n % 100 / 10), digU (n % 100 % 10)]⟩ := rfl
  rw [e, f, show n / 10 / 10 / 10 % 10 = n / 100 / 10 by omega, show n / 10 / 10 % 10 = n / 100 % 10 by omega, show n / 10 % 10 = n % 100 / 10 by omega, show n % 10 = n % 100 % 10 by omega]
theorem conv_oneR (a : Int) (w : World) : (convert 23 9 (.slice (some ⟨w.heap.size, 0, none⟩) 1 1)).run Tryz.prog (w.alloc (.cells #[.int .u8 a] 5)) =
    .ok (.string ⟨#[UInt8.ofNat a.toNat]⟩) (w.alloc (.cells #[.int .u8 a] 5)) :=
  run_convert_bytes_arg (P := Tryz.prog) _ 23 5 Tryz.underlying23 Tryz.underlying5 w.heap.size 0 1 1 [a] rfl
    (fun i hi => by
      rw [World.cell?_alloc_mark]
      have : i = 0 := by omega
      subst this; rfl) 9 Tryz.underlying9
end Go.Proofs.YtmckbcbdnckngaaGreatDoor

namespace Go.Proofs.YtmckbcbdnckngaaGreatDoor
open Go.RowKit

def wdT : ByteArray := ⟨#[83, 117, 110, 77, 111, 110, 84, 117, 101, 87, 101, 100, 84, 104, 117, 70, 114, 105, 83, 97, 116]⟩
def moT : ByteArray := ⟨#[74, 97, 110, 70, 101, 98, 77, 97, 114, 65, 112, 114, 77, 97, 121, 74, 117, 110, 74, 117, 108, 65, 117, 103, 83, 101, 112, 79, 99, 116, 78, 111, 118, 68, 101, 99]⟩
theorem wdT_at (d : Int) : wdT.extract (3 * wkN d).toNat (3 * wkN d + 3).toNat = wdS d := by
  have hb := wkN_bd d
  unfold wdS
  generalize wkN d = k at *
  have : k = 0 ∨ k = 1 ∨ k = 2 ∨ k = 3 ∨ k = 4 ∨ k = 5 ∨ k = 6 := by omega
  rcases this with h | h | h | h | h | h | h <;> subst h <;> decide
theorem moT_at {m : Nat} (h1 : 1 ≤ m) (h2 : m ≤ 12) : moT.extract (3 * (m : Int) - 3).toNat (3 * (m : Int)).toNat = moS m := by
  have : m = 1 ∨ m = 2 ∨ m = 3 ∨ m = 4 ∨ m = 5 ∨ m = 6 ∨ m = 7 ∨ m = 8 ∨ m = 9 ∨ m = 10 ∨ m = 11 ∨ m = 12 := by omega
  rcases this with h | h | h | h | h | h | h | h | h | h | h | h <;> subst h <;> decide
end Go.Proofs.YtmckbcbdnckngaaGreatDoor

namespace Go.Proofs.YtmckbcbdnckngaaGreatDoor
open Go.RowKit

/-- r is the first month whose name t is, or 13. -/
def MF (t : ByteArray) (r : Nat) : Prop := 1 ≤ r ∧ r ≤ 13 ∧ (∀ j, 1 ≤ j → j < r → ((moS j).toList == t.toList) = false) ∧ (r < 13 → ((moS r).toList == t.toList) = true)
theorem moA_hit (t : ByteArray) : ∀ k, 0 < moA t k → t.toList = (moS (moA t k)).toList
  | 0, h => absurd h (by unfold moA; decide)
  | k + 1, h => by
    cases he : (t.toList == (moS (k + 1)).toList)
    · rw [moA_no he] at h ⊢
      exact moA_hit t k h
    · rw [moA_yes he]
      exact eq_of_beq he
theorem moA_pos (t : ByteArray) : ∀ k j, 1 ≤ j → j ≤ k → t.toList = (moS j).toList → 0 < moA t k
  | 0, j, h1, h2, _ => by omega
  | k + 1, j, h1, h2, h => by
    cases he : (t.toList == (moS (k + 1)).toList)
    · rw [moA_no he]
      by_cases hj : j = k + 1
      · subst hj; rw [h, beq_self_eq_true] at he; exact absurd he (by decide)
      · exact moA_pos t k j h1 (by omega) h
    · rw [moA_yes he]; omega
theorem moS_inj {a b : Nat} (ha : 1 ≤ a ∧ a ≤ 12) (hb : 1 ≤ b ∧ b ≤ 12) (h : (moS a).toList = (moS b).toList) : a = b := by
  have key : ∀ i < 12, ∀ j < 12, moS (i + 1) = moS (j + 1) → i = j := by decide
  have h' : moS a = moS b := by
    have e : ∀ x : ByteArray, x = ⟨x.toList.toArray⟩ := fun x => by rw [ByteArray.toList_eq]
    rw [e (moS a), e (moS b), h]
  have := key (a - 1) (by omega) (b - 1) (by omega) (by rw [show a - 1 + 1 = a by omega, show b - 1 + 1 = b by omega]; exact h')
  omega
theorem MF_moA {t : ByteArray} {r : Nat} (h : MF t r) : (r ≤ 12 ∧ moA t 12 = r) ∨ (r = 13 ∧ moA t 12 = 0) := by
  obtain ⟨h1, h2, h3, h4⟩ := h
  have hle := moA_le t 12
  by_cases hr : r < 13
  · left
    have e := eq_of_beq (h4 hr)
    have hp := moA_pos t 12 r h1 (by omega) e.symm
    have hh := moA_hit t 12 hp
    exact ⟨by omega, (moS_inj ⟨by omega, by omega⟩ ⟨by omega, hle⟩ (e.trans hh)).symm⟩
  · right
    refine ⟨by omega, ?_⟩
    by_cases hz : moA t 12 = 0
    · exact hz
    · have hh := moA_hit t 12 (by omega)
      have := h3 (moA t 12) (by omega) (by omega)
      rw [hh, beq_self_eq_true] at this
      exact absurd this (by decide)
theorem num2_list {s : ByteArray} {a b : UInt8} (h : s.data.toList = [a, b]) : num2 s = if dgB a && dgB b then 10 * ((a.toNat : Int) - 48) + ((b.toNat : Int) - 48) else -1 := by
  have : s = ⟨#[a, b]⟩ := by
    cases s with | mk d => cases d with | mk l => simp only at h; subst h; rfl
  subst this
  rfl
theorem numS_2 {s : ByteArray} (h : s.size = 2) : numS s = num2 s := by
  obtain ⟨a, b, hl⟩ : ∃ a b, s.data.toList = [a, b] := by
    have : s.data.toList.length = 2 := by simpa using h
    match s.data.toList, this with
    | [a, b], _ => exact ⟨a, b, rfl⟩
  rw [num2_list hl]
  unfold numS
  rw [hl]
  simp only [List.any_cons, List.any_nil, Bool.or_false, ndg, numF]
  cases dgB a <;> cases dgB b <;> simp
theorem dig2_bd {a b : UInt8} (h : (dgB a && dgB b) = true) : 0 ≤ 10 * ((a.toNat : Int) - 48) + ((b.toNat : Int) - 48) := by
  rw [Bool.and_eq_true] at h
  have := dgB_bd h.1
  have := dgB_bd h.2
  omega
theorem numS_4 {s t u v : ByteArray} (h : s.size = 4) (ht : t.data.toList = s.data.toList) (hu : u.data.toList = s.data.toList.take 2) (hv : v.data.toList = s.data.toList.drop 2) :
    (numS t = -1 ∧ (num2 u < 0 ∨ num2 v < 0)) ∨ (numS t = 100 * num2 u + num2 v ∧ 0 ≤ num2 u ∧ 0 ≤ num2 v) := by
  obtain ⟨a, b, c, d, hl⟩ : ∃ a b c d, s.data.toList = [a, b, c, d] := by
    have : s.data.toList.length = 4 := by simpa using h
    match s.data.toList, this with
    | [a, b, c, d], _ => exact ⟨a, b, c, d, rfl⟩
  rw [hl] at ht hu hv
  have hu : u.data.toList = [a, b] := hu
  have hv : v.data.toList = [c, d] := hv
  rw [num2_list hu, num2_list hv]
  unfold numS
  rw [ht]
  cases h1 : (dgB a && dgB b)
  · left
    refine ⟨?_, Or.inl (by rw [if_neg (by decide)]; decide)⟩
    rw [if_pos]
    simp only [List.any_cons, List.any_nil, Bool.or_false, ndg]
    revert h1
    cases dgB a <;> cases dgB b <;> simp
  · cases h2 : (dgB c && dgB d)
    · left
      refine ⟨?_, Or.inr (by rw [if_neg (by decide)]; decide)⟩
      rw [if_pos]
      simp only [List.any_cons, List.any_nil, Bool.or_false, ndg]
      revert h2
      cases dgB c <;> cases dgB d <;> simp
    · right
      refine ⟨?_, dig2_bd h1, dig2_bd h2⟩
      rw [Bool.and_eq_true] at h1 h2
      rw [if_neg (by simp only [List.any_cons, List.any_nil, Bool.or_false, ndg]; rw [h1.1, h1.2, h2.1, h2.2]; decide), if_pos rfl, if_pos rfl]
      unfold numF numF numF numF numF
      omega
theorem ext_listR (s : ByteArray) (i j : Nat) : (s.extract i j).data.toList = (s.data.toList.take j).drop i := by
  rw [ByteArray.data_extract, Array.toList_extract, List.extract_eq_drop_take']

/-- What the reference makes of the parts. -/
def dateW (s : ByteArray) (y d h mi se : Int) (m : Nat) : Option Int :=
  if okD y m d ∧ ¬ (h < 0 ∨ 23 < h ∨ mi < 0 ∨ 59 < mi ∨ se < 0 ∨ 59 < se) then (if ((fmtS (secN y m d h mi se)).toList == s.toList) then some (secN y m d h mi se) else none) else none
theorem dateP_ref {s : ByteArray} (h29 : s.size = 29) {r : Nat} (hr : MF (s.extract 8 11) r) :
    dateP s = dateW s (numS (s.extract 12 16)) (numS (s.extract 5 7)) (numS (s.extract 17 19)) (numS (s.extract 20 22)) (numS (s.extract 23 25)) r := by
  have hsz : ∀ i j, (s.extract i j).size = min j 29 - i := fun i j => by rw [ByteArray.size_extract, h29]
  rw [numS_2 (hsz 5 7), numS_2 (hsz 17 19), numS_2 (hsz 20 22), numS_2 (hsz 23 25)]
  have hl : s.data.toList.length = 29 := by simpa using h29
  have h4 := numS_4 (s := s.extract 12 16) (t := s.extract 12 16) (u := s.extract 12 14) (v := s.extract 14 16) (hsz 12 16) rfl
    (by rw [ext_listR, ext_listR, List.take_drop, List.take_take]; rfl)
    (by rw [ext_listR, ext_listR, List.drop_drop])
  unfold dateP
  rw [if_pos h29]
  generalize num2 (s.extract 5 7) = d at *
  generalize num2 (s.extract 12 14) = c at *
  generalize num2 (s.extract 14 16) = y at *
  generalize num2 (s.extract 17 19) = h at *
  generalize num2 (s.extract 20 22) = mi at *
  generalize num2 (s.extract 23 25) = se at *
  generalize numS (s.extract 12 16) = y4 at *
  have hm := MF_moA hr
  generalize moA (s.extract 8 11) 12 = m at *
  unfold dateQ dateW
  rcases h4 with ⟨e1, e2⟩ | ⟨e1, e2, e3⟩
  · rw [if_pos (by omega), if_neg]
    rintro ⟨hk, -⟩
    have := hk.1
    omega
  · rw [← e1]
    rcases hm with ⟨m1, m2⟩ | ⟨m1, m2⟩
    · rw [m2]
      by_cases hk : okD y4 r d
      · have hd : 1 ≤ d := hk.2.2.2.2.1
        rw [if_pos hk]
        by_cases hb : h < 0 ∨ 23 < h ∨ mi < 0 ∨ 59 < mi ∨ se < 0 ∨ 59 < se
        · rw [if_pos (by omega)]
          exact (if_neg (fun e => e.2 hb)).symm
        · rw [if_neg (by omega)]
          exact (if_pos ⟨hk, hb⟩).symm
      · rw [if_neg hk, ite_self]
        exact (if_neg (fun e => hk e.1)).symm
    · have n1 : ¬ okD y4 m d := fun e => by have := e.2.2.1; omega
      have n2 : ¬ okD y4 r d := fun e => by have := e.2.2.2.1; omega
      rw [if_neg n1, ite_self]
      exact (if_neg (fun e => n2 e.1)).symm
theorem numS_bd {s : ByteArray} (h : s.size ≤ 4) : -1 ≤ numS s ∧ numS s ≤ 9999 := by
  unfold numS
  split
  · omega
  · rename_i hn
    have hb := numF_bd s.data.toList 0 (by omega) (by simpa using hn)
    have hl : s.data.toList.length = s.size := by simp
    rw [hl] at hb
    have : s.size = 0 ∨ s.size = 1 ∨ s.size = 2 ∨ s.size = 3 ∨ s.size = 4 := by omega
    rcases this with h | h | h | h | h <;> rw [h] at hb <;> simp at hb <;> omega
theorem dateW_bad {s : ByteArray} {y d h mi se : Int} {m : Nat} (hb : h < 0 ∨ 23 < h ∨ mi < 0 ∨ 59 < mi ∨ se < 0 ∨ 59 < se) : dateW s y d h mi se m = none := if_neg (fun e => e.2 hb)
theorem dateW_day {s : ByteArray} {y d h mi se : Int} {m : Nat} (hb : ¬ okD y m d) : dateW s y d h mi se m = none := if_neg (fun e => hb e.1)
theorem dateW_ok {s : ByteArray} {y d h mi se : Int} {m : Nat} (hk : okD y m d) (hb : ¬ (h < 0 ∨ 23 < h ∨ mi < 0 ∨ 59 < mi ∨ se < 0 ∨ 59 < se)) : dateW s y d h mi se m = if ((fmtS (secN y m d h mi se)).toList == s.toList) then some (secN y m d h mi se) else none := if_pos ⟨hk, hb⟩
/-- What the reference's Parse returns: a number that counts only beside true. -/
def Pd2 (o : Option Int) (e : Ending) : Prop := ∃ n : Int, e = .returned (.tuple #[.int .i64 n, .bool o.isSome]) ∧ ∀ k, o = some k → n = k
theorem Pd2.no {o : Option Int} (h : o = none) {n : Int} {b : Bool} (hb : b = false) : Pd2 o (.returned (.tuple #[.int .i64 n, .bool b])) := by
  subst h; subst hb; exact ⟨n, rfl, fun k e => by cases e⟩
theorem Pd2.yes {o : Option Int} {n : Int} {b : Bool} (h : o = if b then some n else none) : Pd2 o (.returned (.tuple #[.int .i64 n, .bool b])) := by
  subst h
  refine ⟨n, by cases b <;> rfl, fun k e => ?_⟩
  cases b
  · cases e
  · injection e
end Go.Proofs.YtmckbcbdnckngaaGreatDoor

namespace Go.Proofs.YtmckbcbdnckngaaGreatDoor
open Go.RowKit

theorem mt_norm (st : St) (strong : Bool) (t : Tg) : mtT (norm st) strong t = (st.ex && mtT st strong t) := by
  unfold mtT norm
  cases st.ex <;> simp
theorem mat_norm (v : ByteArray) (st : St) (strong : Bool) : matS v (norm st) strong = (st.ex && matS v st strong) := by
  unfold matS
  cases tgO v with
  | none => simp
  | some l =>
    simp only []
    cases isStar v
    · simp only [Bool.false_eq_true, if_false]
      rw [show mtT (norm st) strong = fun t => st.ex && mtT st strong t from funext (mt_norm st strong)]
      cases st.ex
      · simp
      · simp
    · simp [norm]

end Go.Proofs.YtmckbcbdnckngaaGreatDoor

namespace Go.Proofs.YtmckbcbdnckngaaGreatDoor
open Go.RowKit

theorem getV_no : getV none = .tuple #[.string ⟨#[]⟩, .bool false] := rfl
theorem getV_some (v : ByteArray) : getV (some v) = .tuple #[.string v, .bool true] := rfl
theorem dateP_nil : dateP ⟨#[]⟩ = none := if_neg (by decide)
theorem dateF_getD (fs : List Fd) (name : ByteArray) : dateF fs name = dateP ((getO fs name).getD ⟨#[]⟩) := by
  unfold dateF
  cases getO fs name with
  | none => exact dateP_nil.symm
  | some v => rfl
theorem dateF_no {fs : List Fd} {name : ByteArray} (h : (getO fs name).isSome = false) : dateF fs name = none := by
  unfold dateF
  cases hg : getO fs name with
  | none => rfl
  | some v => rw [hg] at h; cases h
theorem getD_size {fs : List Fd} {name : ByteArray} {n : Nat} (hn : fs.length = n) : ((getO fs name).getD ⟨#[]⟩).size ≤ sumF fs + 2 * n := by
  cases h : getO fs name with
  | none => exact Nat.zero_le _
  | some v => exact getO_size h hn

end Go.Proofs.YtmckbcbdnckngaaGreatDoor

namespace Go.Proofs.YtmckbcbdnckngaaGreatDoor
open Go.RowKit

def irN : ByteArray := ⟨#[105, 102, 45, 114, 97, 110, 103, 101]⟩
def urV (v : ByteArray) (st : St) : Bool := match tagS v with
  | some t => st.ex && st.ht && (!t.1 && !st.tw && eqT t.2 st.tt)
  | none => match dateP v with
    | some n => st.ex && st.hm && (n == st.md)
    | none => false
def urF (m : ByteArray) (fs : List Fd) (st : St) : Bool := (m.toList == [71, 69, 84]) && (match getO fs irN with | none => true | some v => urV v st)
theorem tagV_some (t : Bool × ByteArray) : tagV (some t) = .agg #[.bool t.1, .string t.2] := rfl
theorem tagV_none : tagV none = .agg #[.bool false, .string ⟨#[]⟩] := rfl
theorem errV_some (t : Bool × ByteArray) : errV (tagE (some t)) = .nilIface := rfl
theorem errV_none : errV (tagE (none : Option (Bool × ByteArray))) = .iface 63 (.int .i64 2) := rfl
theorem dpV_some (n : Int) : dpV (some n) = .tuple #[.int .i64 n, .nilIface] := rfl
theorem dpV_none : dpV none = .tuple #[.int .i64 0, .iface 63 (.int .i64 2)] := rfl
theorem ret_b {a b : Bool} (h : a = b) : Ending.returned (.bool a) = .returned (.bool b) := by rw [h]

set_option maxHeartbeats 16000000 in
set_option maxRecDepth 100000 in
theorem val_UseRange (m : ByteArray) (A : Option Addr) (n c : Nat) (fs : List Fd) (st : St) (w : World) (hf : RdF w A n fs)
    (hn : n ≤ 1073741824) (hsz : Bsz 1048576 fs) (hT : sumF fs + 2 * n ≤ 70368744177664) (hT2 : sumF fs + 2 * n ≤ 1048576) (hg : GlH w) :
    Calls Tryz.prog 126 #[.string m, .slice A n c, .agg (stArr st)] w fun e w' => e = .returned (.bool (urF m fs st)) ∧ Ext w w' := by
  have G1 := Lib.hid (fun w' (h : Ext w w') => field_GetO A n c fs irN w' (hf.ext h) hn (by decide) hsz hT)
  have V1 := Lib.hid (fun v h => Nat.le_trans (@getO_size fs irN v h n hf.lenF) hT2)
  obtain ⟨R, hR⟩ : ∃ R, urF m fs st = R := ⟨_, rfl⟩
  rw [hR]
  unfold urF at hR
  generalize getO fs irN = o1 at *
  obtain ⟨ex, ht, hm, tw, tt, md⟩ := st
  have hE0 := (Ext.refl w).alloc (.cells (stArr ⟨ex, ht, hm, tw, tt, md⟩) 187)
  have hB := Blk.new w 187 (stArr ⟨ex, ht, hm, tw, tt, md⟩)
  have HC := Lib.hid (show ∀ w', Ext (w.alloc (.cells (stArr ⟨ex, ht, hm, tw, tt, md⟩) 187)) w' → (w'.cell? ⟨w.heap.size, 0, none⟩ = some (.bool ex) ∧ w'.cell? ⟨w.heap.size, 1, none⟩ = some (.bool ht) ∧ w'.cell? ⟨w.heap.size, 2, none⟩ = some (.bool hm) ∧ w'.cell? ⟨w.heap.size, 3, none⟩ = some (.bool tw) ∧ w'.cell? ⟨w.heap.size, 4, none⟩ = some (.string tt) ∧ w'.cell? ⟨w.heap.size, 5, none⟩ = some (.int .i64 md)) ∧ w.heap.size < w'.heap.size from fun w' h => ⟨⟨(hB.ext h).cell 0, (hB.ext h).cell 1, (hB.ext h).cell 2, (hB.ext h).cell 3, (hB.ext h).cell 4, (hB.ext h).cell 5⟩, (hB.ext h).lt⟩)
  have HE := Lib.hid hE0
  clear hB hE0
  cases hG : (m.toList == [71, 69, 84])
  · rw [hG] at hR
    have HL := Lib.hid (show false = R from hR)
    clear hR
    go_enter Tryz.func126, Tryz.ntmps126
    go_wp2_with fail
    go_ret
    exact ⟨ret_b HL.out, HE.out⟩
  rw [hG, Bool.true_and] at hR
  have HR := Lib.hid hR; clear hR
  go_enter Tryz.func126, Tryz.ntmps126
  go_wp2_with fail
  refine (G1.out _ HE.out).mono ?_; rintro e w1 ⟨rfl, hb1⟩
  simp only [getV]
  cases o1 with
  | none =>
    have HL := Lib.hid (show true = R from HR.out)
    simp only [Option.getD_none, Option.isSome_none]
    go_wp2_with fail
    go_ret
    exact ⟨ret_b HL.out, HE.out.trans hb1⟩
  | some v =>
    simp only [Option.getD_some, Option.isSome_some]
    have hv := V1.out v rfl
    have HR := Lib.hid (show urV v ⟨ex, ht, hm, tw, tt, md⟩ = R from HR.out)
    unfold urV at HR
    have hP := fun w => http_Parse v w (Nat.le_trans hv (by decide))
    generalize dateP v = P at *
    have HP := Lib.hid hP; clear hP
    have hRd := fun w => val_ReadTag v w hv
    generalize tagS v = o2 at *
    have HRd := Lib.hid hRd; clear hRd
    go_wp2_with fail
    refine (HRd.out _).mono ?_; rintro e w2 ⟨rfl, hb2⟩
    have hE2 := hb1.trans hb2
    obtain ⟨⟨c0, c1, c2, c3, c4, c5⟩, hsz2⟩ := HC.out _ hE2
    cases o2 with
    | some t =>
      obtain ⟨kw, kt⟩ := t
      rw [tagV_some, errV_some]
      cases ex
      · have HL := Lib.hid (show false = R from HR.out)
        go_wp2_with fail
        go_ret
        exact ⟨ret_b HL.out, (HE.out.trans hE2).alloc _⟩
      · cases ht
        · have HL := Lib.hid (show false = R from HR.out)
          go_wp2_with fail
          go_ret
          exact ⟨ret_b HL.out, (HE.out.trans hE2).alloc _⟩
        · have HL := Lib.hid (show (!kw && !tw && eqT kt tt) = R from HR.out)
          go_wp2_with fail
          refine (val_Strong kw tw kt tt _).mono ?_; rintro e w3 ⟨rfl, hb3⟩
          go_wp2_with fail
          go_ret
          exact ⟨ret_b HL.out, ((HE.out.trans hE2).alloc _).trans hb3⟩
    | none =>
      rw [tagV_none, errV_none]
      go_wp2_with fail
      refine (HP.out _ (hg.ext ((HE.out.trans hE2).alloc _))).mono ?_; rintro e w3 ⟨rfl, hb3⟩
      have hE3 := (hE2.alloc _).trans hb3
      obtain ⟨⟨d0, d1, d2, d3, d4, d5⟩, hsz3⟩ := HC.out _ hE3
      cases P with
      | none =>
        have HL := Lib.hid (show false = R from HR.out)
        rw [dpV_none]
        go_wp2_with fail
        go_ret
        exact ⟨ret_b HL.out, HE.out.trans hE3⟩
      | some k =>
        have HL := Lib.hid (show (ex && hm && (k == md)) = R from HR.out)
        rw [dpV_some]
        cases ex
        · go_wp2_with fail
          go_ret
          exact ⟨ret_b HL.out, HE.out.trans hE3⟩
        · cases hm
          · go_wp2_with fail
            go_ret
            exact ⟨ret_b HL.out, HE.out.trans hE3⟩
          · go_wp2_with fail
            go_ret
            exact ⟨ret_b HL.out, HE.out.trans hE3⟩

end Go.Proofs.YtmckbcbdnckngaaGreatDoor

namespace Go.Proofs.YtmckbcbdnckngaaGreatDoor
open Go.RowKit

def marks : List UInt8 := [33, 35, 36, 37, 38, 39, 42, 43, 45, 46, 94, 95, 96, 124, 126]
/-- Is it a sign of a token? -/
def tcharB (c : UInt8) : Bool := (48 ≤ c && c ≤ 57) || (97 ≤ c && c ≤ 122) || (65 ≤ c && c ≤ 90) || marks.contains c
/-- Is a string a token? -/
def tokS (s : ByteArray) : Bool := s.data.toList.all tcharB && decide (0 < s.size)

theorem tchar_alnum {c : UInt8} (h : ((48 : Int) ≤ c.toNat ∧ (c.toNat : Int) ≤ 57) ∨ ((97 : Int) ≤ c.toNat ∧ (c.toNat : Int) ≤ 122) ∨ ((65 : Int) ≤ c.toNat ∧ (c.toNat : Int) ≤ 90)) : tcharB c = true := by
  unfold tcharB
  rcases h with h | h | h
  · have : (48 ≤ c && c ≤ 57) = true := by simp [UInt8.le_iff_toNat_le]; omega
    simp [this]
  · have : (97 ≤ c && c ≤ 122) = true := by simp [UInt8.le_iff_toNat_le]; omega
    simp [this]
  · have : (65 ≤ c && c ≤ 90) = true := by simp [UInt8.le_iff_toNat_le]; omega
    simp [this]
theorem tchar_mark {c : UInt8} (h1 : ¬ ((48 : Int) ≤ c.toNat ∧ (c.toNat : Int) ≤ 57)) (h2 : ¬ ((97 : Int) ≤ c.toNat ∧ (c.toNat : Int) ≤ 122)) (h3 : ¬ ((65 : Int) ≤ c.toNat ∧ (c.toNat : Int) ≤ 90)) : tcharB c = marks.contains c := by
  unfold tcharB
  have a1 : (48 ≤ c && c ≤ 57) = false := by
    rw [Bool.eq_false_iff]; simp [UInt8.le_iff_toNat_le]; omega
  have a2 : (97 ≤ c && c ≤ 122) = false := by
    rw [Bool.eq_false_iff]; simp [UInt8.le_iff_toNat_le]; omega
  have a3 : (65 ≤ c && c ≤ 90) = false := by
    rw [Bool.eq_false_iff]; simp [UInt8.le_iff_toNat_le]; omega
  rw [a1, a2, a3]; rfl
theorem tok_step {s : ByteArray} {k : Nat} (h : k < s.size) (h1 : (s.data.toList.take k).all tcharB = true) (h2 : tcharB s.data[k] = true) : (s.data.toList.take (k + 1)).all tcharB = true := by
  rw [take_step _ k (by simpa using h), List.all_append, h1]
  simpa using h2
theorem tok_no {s : ByteArray} {k : Nat} (h : k < s.size) (h2 : tcharB s.data[k] = false) : false = tokS s := by
  have h3 : s.data.toList.all tcharB = false := by
    rw [List.all_eq_false]
    exact ⟨s.data[k], by simp, by simp [h2]⟩
  rw [tokS, h3]; rfl
theorem tok_end {s : ByteArray} (h1 : (s.data.toList.take s.size).all tcharB = true) : tokS s = decide (0 < s.size) := by
  rw [List.take_of_length_le (by simp)] at h1
  rw [tokS, h1, Bool.true_and]
theorem ne_empty (s : ByteArray) : (!(s.toList == (⟨#[]⟩ : ByteArray).toList)) = decide (0 < s.size) := by
  rw [Bool.eq_iff_iff]
  simp only [Bool.not_eq_true', decide_eq_true_eq]
  rw [← Bool.not_eq_true, eqS_iff]
  constructor
  · intro h
    rcases Nat.eq_zero_or_pos s.size with h0 | h0
    · exact absurd (ByteArray.size_eq_zero_iff.1 h0) h
    · exact h0
  · intro h e; subst e; exact absurd h (by decide)

theorem indexMarks (c : UInt8) : decide (0 ≤ Lib.indexByte marks c) = marks.contains c := (Lib.contains_iff_indexByte _ _).symm

set_option maxHeartbeats 1000000 in
theorem syntax_tchar (c : UInt8) (w : World) :
    Calls Tryz.prog 122 #[.int .u8 (c.toNat : Int)] w fun e w' => e = .returned (.bool (tcharB c)) ∧ Ext w w' := by
  go_enter Tryz.func122, Tryz.ntmps122
  have h1 := Lib.hid (@tchar_alnum c)
  have h2 := Lib.hid (@tchar_mark c)
  have hi := Tryz.strings_IndexByte ⟨marks.toArray⟩ (c.toNat : Int)
  rw [show ((c.toNat : Int)).toNat.toUInt8 = c by simp, show (⟨marks.toArray⟩ : ByteArray).data.toList = marks from rfl] at hi
  have Hi := Lib.hid hi; clear hi
  go_wp2_with fail
  all_goals first
    | (go_ret; exact ⟨congrArg (fun x => Ending.returned (.bool x)) (h1.out (by omega)).symm, Ext.refl _⟩)
    | (refine (Hi.out _).mono ?_; rintro e w1 ⟨rfl, rfl⟩
       have hx := h2.out (by omega) (by omega) (by omega)
       rw [← indexMarks] at hx
       generalize Lib.indexByte marks c = I at *
       have Hx := Lib.hid hx; clear hx
       go_wp2_with fail
       all_goals (go_ret; refine ⟨congrArg (fun x => Ending.returned (.bool x)) ?_, Ext.refl _⟩; rw [Hx.out] <;> simp <;> omega))

set_option maxHeartbeats 1000000 in
theorem syntax_Token (s : ByteArray) (w : World) (hs : s.size ≤ 4611686018427387904) :
    Calls Tryz.prog 99 #[.string s] w fun e w' => e = .returned (.bool (tokS s)) ∧ Ext w w' := by
  go_enter Tryz.func99, Tryz.ntmps99
  go_wp2_with fail
  go_loopw [6] (fun i wr => ∃ k, k ≤ s.size ∧ i = .int .i64 (k : Nat) ∧ (s.data.toList.take k).all tcharB = true ∧ Ext w wr) (fun i _ => s.size - (intOf i).toNat)
  case atStart => exact ⟨0, Nat.zero_le _, rfl, rfl, Ext.refl _⟩
  case round =>
    obtain ⟨k, hk, rfl, hall, hbr⟩ := hrel
    by_cases hlt : k < s.size
    · have Hst := Lib.hid (tok_step hlt hall); clear hall
      have Hno := Lib.hid (tok_no hlt)
      have Hc := Lib.hid (syntax_tchar s.data[k])
      go_wp2_with fail
      refine (Hc.out _).mono ?_; rintro e w2 ⟨rfl, hb2⟩
      generalize tcharB s.data[k] = b at *
      cases b
      · go_wp2_with fail
        go_ret
        exact ⟨congrArg (fun x => Ending.returned (.bool x)) (Hno.out trivial), hbr.trans hb2⟩
      · go_wp2_with fail
        go_roundw
        case rel => exact ⟨k + 1, by omega, by go_num, Hst.out trivial, hbr.trans hb2⟩
        case measure => simp [intOf]; omega
    · obtain rfl : k = s.size := by omega
      have He := Lib.hid ((tok_end hall).trans (ne_empty s).symm); clear hall
      go_wp2_with fail
      all_goals (go_ret; exact ⟨congrArg (fun x => Ending.returned (.bool x)) (by simpa using He.out.symm), hbr⟩)

theorem marks_at {c : UInt8} {S : ByteArray} (hS : S.data = marks.toArray) {k : Nat} (h : k < S.size) (e : ((S[k].toNat : Int) == c.toNat) = true) : true = marks.contains c := by
  have h2 : S[k] = c := UInt8.toNat_inj.1 (by simp at e; omega)
  have h3 : c ∈ S.data.toList := by
    rw [← h2, Array.mem_toList_iff]; exact Array.getElem_mem (xs := S.data) h
  rw [hS] at h3
  simp only [List.contains_eq_mem]
  simpa using h3
theorem marks_step {c : UInt8} {S : ByteArray} (_ : S.data = marks.toArray) {k : Nat} (h : k < S.size) (h1 : (S.data.toList.take k).contains c = false) (e : ((S[k].toNat : Int) == c.toNat) = false) : (S.data.toList.take (k + 1)).contains c = false := by
  rw [take_step S.data.toList k (by simpa using h)]
  simp only [List.contains_eq_mem, List.mem_append, decide_eq_false_iff_not, not_or] at *
  refine ⟨h1, ?_⟩
  simp only [List.mem_singleton]
  rintro rfl
  simp at e
  exact e rfl

end Go.Proofs.YtmckbcbdnckngaaGreatDoor

namespace Go.Proofs.YtmckbcbdnckngaaGreatDoor
open Go.RowKit

theorem sizeF_step {fs : List Fd} {k : Nat} (h : k < fs.length) : sumF (fs.take (k + 1)) + 4 * (k + 1) = sumF (fs.take k) + 4 * k + (fs[k].1.size + fs[k].2.size + 4) := by
  rw [sumF_step h]; omega

set_option maxHeartbeats 1000000 in
theorem field_Size (A : Option Addr) (n c : Nat) (fs : List Fd) (w : World) (hf : RdF w A n fs)
    (hn : n ≤ 65536) (B : Nat) (hB : B ≤ 4294967296) (hsz : Bsz B fs) :
    Calls Tryz.prog 56 #[.slice A n c] w fun e w' => e = .returned (.int .i64 (sumF fs + 4 * n : Nat)) ∧ Ext w w' := by
  have hl := hf.lenF
  go_enter Tryz.func56, Tryz.ntmps56
  have Hl := Lib.hid hl; clear hl
  go_wp2_with fail
  go_loopw [3, 8] (fun v i wr => ∃ k, k ≤ n ∧ i = .int .i64 (k : Nat) ∧ v = .int .i64 (sumF (fs.take k) + 4 * k : Nat) ∧ Ext w wr) (fun _ i _ => n - (intOf i).toNat)
  case atStart => exact ⟨0, Nat.zero_le _, rfl, rfl, Ext.refl _⟩
  case round =>
    obtain ⟨k, hk, rfl, rfl, hbr⟩ := hrel
    have hsum2 : sumF (fs.take k) ≤ 65536 * (2 * B) := sumF_lt (hsz.take k) (by simp; omega)
    by_cases hlt : k < n
    · have hlt' : k < fs.length := by have := Hl.out; omega
      obtain ⟨b, o, rfl, hc0, hc1⟩ := (hf.ext hbr).atF hlt'
      obtain ⟨hbd1, hbd2⟩ := hsz.at_ hlt'
      have Hst := Lib.hid (sizeF_step hlt')
      generalize fs[k].1 = nm at *
      generalize fs[k].2 = vl at *
      generalize hX : sumF (fs.take k) + 4 * k = X at *
      have hX2 : X ≤ 65536 * (2 * B) + 4 * k := by omega
      clear hX
      go_wp2
      go_roundw
      case rel => exact ⟨k + 1, by omega, by go_num, by rw [Hst.out]; go_num, (hbr.alloc _)⟩
      case measure => simp [intOf]; omega
    · obtain rfl : k = n := by omega
      have he : fs.take k = fs := List.take_of_length_le (by have := Hl.out; omega)
      rw [he]
      go_wp2
      go_ret
      exact ⟨rfl, hbr⟩

def awakeFs : List Fd := [(⟨#[65]⟩, ⟨#[49]⟩), (⟨#[98]⟩, ⟨#[120]⟩), (⟨#[97]⟩, ⟨#[50]⟩)]
theorem awake_get : joinS (allS awakeFs ⟨#[65]⟩) = ⟨#[49, 44, 32, 50]⟩ ∧ (allS awakeFs ⟨#[65]⟩).length = 2 ∧ sumF awakeFs + 4 * 3 = 18 := by decide +kernel

theorem awake_bsz : Bsz 1 awakeFs := by unfold Bsz; decide +kernel

theorem gets_small {fs : List Fd} (h : smallS fs = true) : fs.length ≤ 70 ∧ sumF fs ≤ 6000 := by
  simpa [smallS] using h

end Go.Proofs.YtmckbcbdnckngaaGreatDoor

namespace Go.Proofs.YtmckbcbdnckngaaGreatDoor
open Go.RowKit

def nameE (s : ByteArray) : Nat := if tokS s then (if s.size > 64 then 5 else 0) else 8
def nameS (s : ByteArray) : ByteArray := if nameE s = 0 then lowS s else ⟨#[]⟩
def valueE (s : ByteArray) : Nat := if ctlS s then 2 else (if (trimF s).size > 2048 then 5 else 0)
def valueS (s : ByteArray) : ByteArray := if valueE s = 0 then trimF s else ⟨#[]⟩
theorem nameE_lt (s : ByteArray) : nameE s < 9 := by unfold nameE; split <;> (try split) <;> omega
theorem valueE_lt (s : ByteArray) : valueE s < 9 := by unfold valueE; split <;> (try split) <;> omega
theorem name_no {s : ByteArray} (h : tokS s = false) : nameE s = 8 ∧ nameS s = ⟨#[]⟩ := by
  have : nameE s = 8 := by unfold nameE; rw [h]; rfl
  exact ⟨this, by unfold nameS; rw [this]; rfl⟩
theorem name_big {s : ByteArray} (h : tokS s = true) (h2 : s.size > 64) : nameE s = 5 ∧ nameS s = ⟨#[]⟩ := by
  have : nameE s = 5 := by unfold nameE; rw [if_pos h, if_pos h2]
  exact ⟨this, by unfold nameS; rw [this]; rfl⟩
theorem name_ok {s : ByteArray} (h : tokS s = true) (h2 : ¬ s.size > 64) : nameE s = 0 ∧ nameS s = lowS s := by
  have : nameE s = 0 := by unfold nameE; rw [if_pos h, if_neg h2]
  exact ⟨this, by unfold nameS; rw [this]; rfl⟩
theorem value_no {s : ByteArray} (h : ctlS s = true) : valueE s = 2 ∧ valueS s = ⟨#[]⟩ := by
  have : valueE s = 2 := by unfold valueE; rw [h]; rfl
  exact ⟨this, by unfold valueS; rw [this]; rfl⟩
theorem value_big {s : ByteArray} (h : ctlS s = false) (h2 : (trimF s).size > 2048) : valueE s = 5 ∧ valueS s = ⟨#[]⟩ := by
  have : valueE s = 5 := by unfold valueE; rw [if_neg (by simp [h]), if_pos h2]
  exact ⟨this, by unfold valueS; rw [this]; rfl⟩
theorem value_ok {s : ByteArray} (h : ctlS s = false) (h2 : ¬ (trimF s).size > 2048) : valueE s = 0 ∧ valueS s = trimF s := by
  have : valueE s = 0 := by unfold valueE; rw [if_neg (by simp [h]), if_neg h2]
  exact ⟨this, by unfold valueS; rw [this]; rfl⟩
/-- A contract's end: a string and an error's number. -/
theorem fin2 {w w' : World} {a b : ByteArray} {n m : Nat} {f : Nat → Value} (h : n = m ∧ a = b) (he : Ext w w') :
    (Ending.returned (.tuple #[.string b, f m]) : Ending) = .returned (.tuple #[.string a, f n]) ∧ Ext w w' := by
  obtain ⟨rfl, rfl⟩ := h; exact ⟨rfl, he⟩

set_option maxHeartbeats 1000000 in
theorem field_Name (s : ByteArray) (w : World) (hs : s.size ≤ 4611686018427387904) :
    Calls Tryz.prog 59 #[.string s] w fun e w' => e = .returned (.tuple #[.string (nameS s), errV (nameE s)]) ∧ Ext w w' := by
  go_enter Tryz.func59, Tryz.ntmps59
  go_wp2_with fail
  refine (syntax_Token s _ hs).mono ?_; rintro e w1 ⟨rfl, hb1⟩
  have hno := Lib.hid (@name_no s); have hbig := Lib.hid (@name_big s); have hok := Lib.hid (@name_ok s)
  generalize tokS s = b at *
  cases b
  · go_wp2_with fail
    go_ret2
    exact fin2 (f := errV) (hno.out trivial) hb1
  · by_cases h64 : s.size > 64
    · go_wp2_with fail
      go_ret2
      exact fin2 (f := errV) (hbig.out trivial h64) hb1
    · go_wp2_with fail
      refine (field_lower s _ (by omega)).mono ?_; rintro e w2 ⟨rfl, hb2⟩
      go_wp2_with fail
      go_ret2
      exact fin2 (f := errV) (hok.out trivial h64) (hb1.trans hb2)

set_option maxHeartbeats 1000000 in
theorem field_Value (s : ByteArray) (w : World) (hs : s.size ≤ 4611686018427387904) :
    Calls Tryz.prog 21 #[.string s] w fun e w' => e = .returned (.tuple #[.string (valueS s), errV (valueE s)]) ∧ Ext w w' := by
  go_enter Tryz.func21, Tryz.ntmps21
  go_wp2_with fail
  refine (field_control s _ hs).mono ?_; rintro e w1 ⟨rfl, hb1⟩
  have hno := Lib.hid (@value_no s); have hbig := Lib.hid (@value_big s); have hok := Lib.hid (@value_ok s)
  generalize ctlS s = b at *
  cases b
  · go_wp2_with fail
    refine (strings_Trim_blank s _ (by omega)).mono ?_; rintro e w2 ⟨rfl, hb2⟩
    have htl := trimF_size s
    generalize trimF s = T at *
    by_cases h64 : T.size > 2048
    · go_wp2_with fail
      go_ret2
      exact fin2 (f := errV) (hbig.out trivial h64) (hb1.trans hb2)
    · go_wp2_with fail
      go_ret2
      exact fin2 (f := errV) (hok.out trivial h64) (hb1.trans hb2)
  · go_wp2_with fail
    go_ret2
    exact fin2 (f := errV) (hno.out trivial) hb1

end Go.Proofs.YtmckbcbdnckngaaGreatDoor

namespace Go.Proofs.YtmckbcbdnckngaaGreatDoor
open Go.RowKit

/-- The number of what is wrong with a field. -/
def chk (f : Fd) : Nat :=
  if nameE f.1 ≠ 0 then nameE f.1 else if nameS f.1 ≠ f.1 then 8 else if valueE f.2 ≠ 0 then valueE f.2 else if valueS f.2 ≠ f.2 then 2 else 0
def chkL : List Fd → Nat
  | [] => 0
  | f :: r => if chk f ≠ 0 then chk f else chkL r
/-- Of a list of fields: of the first that is wrong; 64 are too many. -/
def chkS (fs : List Fd) : Nat := if fs.length > 64 then 5 else chkL fs
theorem chk_lt (f : Fd) : chk f < 9 := by
  unfold chk
  have := nameE_lt f.1; have := valueE_lt f.2
  split
  · omega
  · split
    · omega
    · split
      · omega
      · split <;> omega
theorem chkL_lt : ∀ l : List Fd, chkL l < 9
  | [] => by decide
  | f :: r => by
    unfold chkL
    split
    · exact chk_lt f
    · exact chkL_lt r
theorem chkS_lt (l : List Fd) : chkS l < 9 := by
  unfold chkS
  split
  · omega
  · exact chkL_lt l
theorem chkL_app : ∀ (l r : List Fd), chkL l = 0 → chkL (l ++ r) = chkL r
  | [], r, _ => rfl
  | f :: l, r, h => by
    unfold chkL at h
    split at h
    · exact absurd h (by assumption)
    · rename_i hf
      rw [List.cons_append, chkL, if_neg hf]; exact chkL_app l r h
theorem chk_step {fs : List Fd} {k : Nat} (h : k < fs.length) (h1 : chkL (fs.take k) = 0) (h2 : chk fs[k] = 0) : chkL (fs.take (k + 1)) = 0 := by
  rw [take_step fs k h, chkL_app _ _ h1]; simp [chkL, h2]
theorem chk_yes {fs : List Fd} {k : Nat} (h : k < fs.length) (hl : fs.length ≤ 64) (h1 : chkL (fs.take k) = 0) (h2 : chk fs[k] ≠ 0) : chk fs[k] = chkS fs := by
  have e : fs = fs.take k ++ fs[k] :: fs.drop (k + 1) := by simp
  unfold chkS
  rw [if_neg (by omega)]
  conv => rhs; rw [e]
  rw [chkL_app _ _ h1, chkL, if_pos h2]
theorem chk_end {fs : List Fd} (hl : fs.length ≤ 64) (h1 : chkL (fs.take fs.length) = 0) : 0 = chkS fs := by
  rw [List.take_of_length_le (Nat.le_refl _)] at h1
  unfold chkS
  rw [if_neg (by omega), h1]
theorem chk_many {fs : List Fd} (hl : 64 < fs.length) : 5 = chkS fs := by unfold chkS; rw [if_pos hl]
theorem errV_pos {n : Nat} (h : n ≠ 0) : errV n = .iface 63 (.int .i64 n) := by unfold errV; rw [if_neg h]
theorem neqS_no {a b : ByteArray} (h : a = b) : (a.toList == b.toList) = true := eqS_iff.2 h
theorem neqS_yes {a b : ByteArray} (h : a ≠ b) : (a.toList == b.toList) = false := by
  rw [← Bool.not_eq_true, eqS_iff]; exact h

set_option maxHeartbeats 1000000 in
theorem field_check (a b : ByteArray) (w : World) (ha : a.size ≤ 4611686018427387904) (hbs : b.size ≤ 4611686018427387904) :
    Calls Tryz.prog 61 #[.agg #[.string a, .string b]] w fun e w' => e = .returned (errV (chk (a, b))) ∧ Ext w w' := by
  have hcA : (w.alloc (.cells #[.string a, .string b] 51)).cell? ⟨w.heap.size, 0, none⟩ = some (.string a) := by rw [World.cell?_alloc_mark]; rfl
  have hcB : (w.alloc (.cells #[.string a, .string b] 51)).cell? ⟨w.heap.size, 1, none⟩ = some (.string b) := by rw [World.cell?_alloc_mark]; rfl
  have hb0 : Ext w (w.alloc (.cells #[.string a, .string b] 51)) := (Ext.refl w).alloc _
  go_enter Tryz.func61, Tryz.ntmps61
  go_wp2_with fail
  generalize w.alloc (.cells #[.string a, .string b] 51) = w0 at *
  generalize w.heap.size = BB at *
  refine (field_Name a _ ha).mono ?_; rintro e w1 ⟨rfl, hb1⟩
  have hcA1 := hb1.cell hcA; have hcB1 := hb1.cell hcB
  have hbe1 := hb0.trans hb1
  by_cases hn : nameE a = 0
  · have Hn := Lib.hid hn
    rw [hn, show errV 0 = .nilIface from rfl]
    by_cases hns : nameS a = a
    · have Hns := Lib.hid hns
      have hq := neqS_no hns
      go_wp2_with fail
      refine (field_Value b _ hbs).mono ?_; rintro e w2 ⟨rfl, hb2⟩
      have hcB2 := hb2.cell hcB1
      by_cases hv : valueE b = 0
      · have Hv := Lib.hid hv
        rw [hv, show errV 0 = .nilIface from rfl]
        by_cases hvs : valueS b = b
        · have Hvs := Lib.hid hvs
          have hq2 := neqS_no hvs
          go_wp2_with fail
          go_ret
          refine ⟨congrArg Ending.returned ?_, hbe1.trans hb2⟩
          unfold chk; rw [if_neg (by simp [Hn.out]), if_neg (by simp [Hns.out]), if_neg (by simp [Hv.out]), if_neg (by simp [Hvs.out])]; rfl
        · have Hvs := Lib.hid hvs
          have hq2 := neqS_yes hvs
          go_wp2_with fail
          go_ret
          refine ⟨congrArg Ending.returned ?_, hbe1.trans hb2⟩
          unfold chk; rw [if_neg (by simp [Hn.out]), if_neg (by simp [Hns.out]), if_neg (by simp [Hv.out]), if_pos Hvs.out]; rfl
      · have Hv := Lib.hid hv
        rw [errV_pos hv]
        go_wp2_with fail
        go_ret
        refine ⟨congrArg Ending.returned ?_, hbe1.trans hb2⟩
        unfold chk; rw [if_neg (by simp [Hn.out]), if_neg (by simp [Hns.out]), if_pos Hv.out, errV_pos Hv.out]; rfl
    · have Hns := Lib.hid hns
      have hq := neqS_yes hns
      go_wp2_with fail
      go_ret
      refine ⟨congrArg Ending.returned ?_, hbe1⟩
      unfold chk; rw [if_neg (by simp [Hn.out]), if_pos Hns.out]; rfl
  · have Hn := Lib.hid hn
    rw [errV_pos hn]
    go_wp2_with fail
    go_ret
    refine ⟨congrArg Ending.returned ?_, hbe1⟩
    unfold chk; rw [if_pos Hn.out, errV_pos Hn.out]; rfl

set_option maxHeartbeats 1000000 in
theorem field_Check (A : Option Addr) (n c : Nat) (fs : List Fd) (w : World) (hf : RdF w A n fs) (hn : n ≤ 9223372036854775807) (hsz : Bsz 4611686018427387904 fs) :
    Calls Tryz.prog 29 #[.slice A n c] w fun e w' => e = .returned (errV (chkS fs)) ∧ Ext w w' := by
  have hl := hf.lenF
  go_enter Tryz.func29, Tryz.ntmps29
  have Hl := Lib.hid hl; clear hl
  by_cases h64 : n > 64
  · have Hm := Lib.hid (chk_many (fs := fs) (by have := Hl.out; omega))
    go_wp2_with fail
    go_ret
    exact ⟨by rw [← Hm.out]; rfl, Ext.refl _⟩
  · go_wp2_with fail
    have H64 := Lib.hid (show fs.length ≤ 64 by have := Hl.out; omega)
    go_loopw [12] (fun i wr => ∃ k, k ≤ n ∧ i = .int .i64 (k : Nat) ∧ chkL (fs.take k) = 0 ∧ Ext w wr) (fun i _ => n - (intOf i).toNat)
    case atStart => exact ⟨0, Nat.zero_le _, rfl, rfl, Ext.refl _⟩
    case round =>
      obtain ⟨k, hk, rfl, hall, hbr⟩ := hrel
      by_cases hlt : k < n
      · have hlt' : k < fs.length := by have := Hl.out; omega
        obtain ⟨b, o, rfl, hc0, hc1⟩ := (hf.ext hbr).atF hlt'
        have Hst := Lib.hid (chk_step hlt' hall)
        have Hy := Lib.hid (chk_yes hlt' H64.out hall); clear hall
        obtain ⟨hz1, hz2⟩ := hsz.at_ hlt'
        have Hc := Lib.hid (fun w => field_check fs[k].1 fs[k].2 w hz1 hz2)
        go_wp2_with fail
        refine (Hc.out _).mono ?_; rintro e w2 ⟨rfl, hb2⟩
        have hb2 := hbr.trans (((Ext.refl wr).alloc _).trans hb2)
        by_cases hz : chk fs[k] = 0
        · have Hz := Lib.hid hz
          rw [show chk (fs[k].1, fs[k].2) = 0 from hz, show errV 0 = .nilIface from rfl]
          clear hz
          go_wp2_with fail
          go_roundw
          case rel => exact ⟨k + 1, by omega, by go_num, Hst.out Hz.out, hb2⟩
          case measure => simp [intOf]; omega
        · have Hz := Lib.hid hz
          rw [show errV (chk (fs[k].1, fs[k].2)) = _ from errV_pos hz]
          clear hz
          go_wp2_with fail
          go_ret
          exact ⟨congrArg Ending.returned (by rw [← Hy.out Hz.out, errV_pos Hz.out]; rfl), hb2⟩
      · obtain rfl : k = n := by omega
        have He := Lib.hid (chk_end H64.out (by rw [Hl.out]; exact hall)); clear hall
        go_wp2_with fail
        go_ret
        exact ⟨congrArg Ending.returned (by rw [← He.out]; rfl), hbr⟩

end Go.Proofs.YtmckbcbdnckngaaGreatDoor

namespace Go.Proofs.YtmckbcbdnckngaaGreatDoor
open Go.RowKit

set_option maxHeartbeats 1000000 in
theorem field_Remove (A : Option Addr) (n c : Nat) (fs : List Fd) (name : ByteArray) (w : World) (hf : RdF w A n fs)
    (hn : n ≤ 1073741824) (hs : name.size ≤ 9223372036854775807) (hsz : Bsz 4611686018427387904 fs) :
    Calls Tryz.prog 31 #[.slice A n c, .string name] w fun e w' => ∃ A' n' c', e = .returned (.slice A' n' c') ∧ RdF w' A' n' (remS fs name) ∧ n' ≤ c' ∧ Ext w w' ∧ w'.ownsRow w.heap.size 51 2 (.slice A' n' c') n' (fldCells (remS fs name)) := by
  have hl := hf.lenF
  go_enter Tryz.func31, Tryz.ntmps31
  have Hl := Lib.hid hl; clear hl
  go_wp2_with fail
  refine (field_lower _ _ (by assumption)).mono ?_; rintro e w1 ⟨rfl, hb1⟩
  go_wp2_with fail
  go_loopw [5, 12] (fun v i wr => ∃ k m A' c', k ≤ n ∧ i = .int .i64 (k : Nat) ∧ v = .slice A' m c' ∧ wr.ownsRow w1.heap.size 51 2 (.slice A' m c') m (fldCells (remS (fs.take k) name)) ∧ m ≤ c' ∧ Ext w1 wr) (fun _ i _ => n - (intOf i).toNat)
  case atStart => exact ⟨0, 0, none, 0, Nat.zero_le _, rfl, rfl, World.ownsRow_nil _ _ _ _, Nat.le_refl _, Ext.refl _⟩
  case round =>
    obtain ⟨k, m, A', c', hk, rfl, rfl, hown, hmc, hbr⟩ := hrel
    by_cases hlt : k < n
    · have hlt' : k < fs.length := by have := Hl.out; omega
      obtain ⟨b, o, rfl, hc0, hc1⟩ := (hf.ext (hb1.trans hbr)).atF hlt'
      have hbd := (hsz.at_ hlt').1
      have hm1 := hown.1
      rw [fldCells_len] at hm1
      have hmk := remS_len fs name k
      have hmk2 : m ≤ k := by omega
      have Hm := Lib.hid hm1; clear hm1 hmk
      by_cases hy : isN name fs[k] = true
      · have Hst := Lib.hid (remS_drop hlt' hy)
        unfold isN at hy
        have hy2 : ((lowS fs[k].1).toList != (lowS name).toList) = false := by simp [bne, hy]
        generalize fs[k].1 = nm at *
        generalize fs[k].2 = vl at *
        go_wp2_with (first
          | (go_at_call 65; refine (field_lower _ _ (by omega)).mono ?_; rintro e w2 ⟨rfl, hb2⟩; have hc2 := hb2.cells; have hz2 := hb2.size))
        go_roundw
        case rel => exact ⟨k + 1, m, A', c', by omega, by go_num, rfl, by rw [Hst.out]; exact own_ext (hown.alloc _) hb2, hmc, (hbr.alloc _).trans hb2⟩
        case measure => simp [intOf]; omega
      · have hy : isN name fs[k] = false := by simpa using hy
        have Hst := Lib.hid (remS_keep hlt' hy)
        unfold isN at hy
        have hy2 : ((lowS fs[k].1).toList != (lowS name).toList) = true := by simp [bne, hy]
        generalize hx : fs[k] = x at *
        obtain ⟨nm, vl⟩ := x
        clear hx
        simp only at hy hy2 hbd hc0 hc1
        go_wp2_with (first
          | (go_at_call 65; refine (field_lower _ _ (by omega)).mono ?_; rintro e w2 ⟨rfl, hb2⟩; have hc2 := hb2.cells; have hz2 := hb2.size)
          | (at_builtin; refine wpList_app _ rfl (.tmp 21) (.tmp 23) 33 rfl w1 51 _ 2 32 Tryz.underlying33 infoFld rfl (by decide) _ _ _ rfl ((own_ext (hown.alloc _) hb2).alloc _) _ 1 1 (fldCells [(nm, vl)]) rfl (Rd.two _ _ _ _ (by simp)) (fldCells_one _) (((hbr.alloc _).trans hb2).alloc _) (by omega) (by decide) ?_; intro A2 c2 w3 hown3 hb3 hle3))
        go_roundw
        case rel => exact ⟨k + 1, m + 1, A2, c2, by omega, by go_num, rfl, by rw [Hst.out, fldCells_app]; exact hown3, hle3, hb3⟩
        case measure => simp [intOf]; omega
    · obtain rfl : k = n := by omega
      have he : fs.take k = fs := List.take_of_length_le (by have := Hl.out; omega)
      rw [he] at hown
      go_wp2
      go_ret
      exact ⟨_, _, _, rfl, Rd.of_own hown, hmc, hb1.trans hbr, own_base hown hb1.size⟩

set_option maxHeartbeats 1000000 in
theorem flds_Clone (A : Option Addr) (n c : Nat) (fs : List Fd) (w : World) (hf : RdF w A n fs) (hn : n ≤ 1073741824) :
    Calls Tryz.prog 74 #[.slice A n c] w fun e w' => ∃ A' c', e = .returned (.slice A' n c') ∧ RdF w' A' n fs ∧ n ≤ c' ∧ Ext w w' ∧ (A' = none → n = 0) := by
  have heq := fun w => Lib.run_eql_slice_nil (P := Tryz.prog) w 33 51 A n c 0 0 Tryz.underlying33
  have hnil : A = none → n = 0 := fun h => by
    rcases Nat.eq_zero_or_pos n with h0 | h0
    · exact h0
    · obtain ⟨b, o, e, _⟩ := hf.2 (by have := hf.1; omega)
      rw [h] at e; cases e
  cases A with
  | none =>
    obtain rfl := hnil rfl
    go_enter Tryz.func74, Tryz.ntmps74
    simp only [Option.isNone] at heq
    go_wp2
    go_ret
    exact ⟨none, ⟨0, rfl⟩, hf, Ext.refl _⟩
  | some a =>
    clear hnil
    go_enter Tryz.func74, Tryz.ntmps74
    simp only [Option.isNone] at heq
    have hown : (w.alloc (.cells #[] 51)).ownsRow w.heap.size 51 2 (.slice (some ⟨w.heap.size, 0, none⟩) 0 0) 0 [] := World.ownsRow_made w #[] 0 (Nat.le_refl _) (by simp [maxLen]) rfl
    have hone := fldCells_one fs
    go_wp2_with (first
      | (at_builtin; refine wpList_app _ rfl (.tmp 5) (.tmp 6) 33 rfl w 51 _ 2 32 Tryz.underlying33 infoFld rfl (by decide) _ _ _ rfl hown _ n c (fldCells fs) rfl (hf.alloc _) hone ((Ext.refl w).alloc _) (by omega) (by decide) ?_; intro A2 c2 w3 hown3 hb3 hle3))
    go_ret
    rw [Nat.zero_add, List.nil_append] at hown3
    rw [Nat.zero_add] at hle3
    refine ⟨A2, c2, by simp, Rd.of_own hown3, hle3, hb3, fun h => ?_⟩
    subst h
    rcases hown3.2 with ⟨_, h0⟩ | ⟨g, cap, cur, hv, _⟩
    · exact h0
    · cases hv

end Go.Proofs.YtmckbcbdnckngaaGreatDoor

namespace Go.Proofs.YtmckbcbdnckngaaGreatDoor
open Go.RowKit

set_option maxHeartbeats 2000000 in
theorem field_Set (A : Option Addr) (n c : Nat) (fs : List Fd) (name value : ByteArray) (w : World) (hf : RdF w A n fs)
    (hn : n ≤ 1073741824) (hs : name.size ≤ 9223372036854775807) (hsz : Bsz 4611686018427387904 fs) :
    Calls Tryz.prog 47 #[.slice A n c, .string name, .string value] w fun e w' => ∃ A' n' c', e = .returned (.slice A' n' c') ∧ RdF w' A' n' (setS name value fs) ∧ n' ≤ c' ∧ Ext w w' ∧ w'.ownsRow w.heap.size 51 2 (.slice A' n' c') n' (fldCells (setS name value fs)) := by
  have hl := hf.lenF
  go_enter Tryz.func47, Tryz.ntmps47
  have Hl := Lib.hid hl; clear hl
  go_wp2_with fail
  refine (field_lower _ _ (by assumption)).mono ?_; rintro e w1 ⟨rfl, hb1⟩
  go_wp2_with fail
  go_loopg [7, 8, 15] n (fun g v d i wr => ∃ k m A' c', k ≤ n ∧ g = n - k ∧ i = .int .i64 (k : Nat) ∧ d = .bool (hasTo fs name k) ∧ v = .slice A' m c' ∧ wr.ownsRow w1.heap.size 51 2 (.slice A' m c') m (fldCells (setTo fs name value k)) ∧ m ≤ c' ∧ Ext w1 wr)
  case atStart => exact ⟨0, 0, none, 0, Nat.zero_le _, rfl, rfl, rfl, rfl, World.ownsRow_nil _ _ _ _, Nat.le_refl _, Ext.refl _⟩
  case round =>
    obtain ⟨k, m, A', c', hk, rfl, rfl, rfl, rfl, hown, hmc, hbr⟩ := hrel
    have hm1 := hown.1
    rw [fldCells_len] at hm1
    have hmk := setTo_len fs name value k
    have hmk2 : m ≤ k + 1 := by omega
    have Hm := Lib.hid hm1; clear hm1 hmk
    by_cases hlt : k < n
    · have hlt' : k < fs.length := by have := Hl.out; omega
      obtain ⟨b, o, rfl, hc0, hc1⟩ := (hf.ext (hb1.trans hbr)).atF hlt'
      have hbd := (hsz.at_ hlt').1
      have Hhas := Lib.hid (hasTo_step (name := name) hlt')
      by_cases hy : isN name fs[k] = true
      · have HY := Lib.hid hy
        unfold isN at hy
        have hy2 : ((lowS fs[k].1).toList != (lowS name).toList) = false := by simp [bne, hy]
        cases hd : hasTo fs name k
        · have Hst := Lib.hid (setTo_new (value := value) hlt' HY.out hd)
          have Hd := Lib.hid hd; clear hd
          generalize hx : fs[k] = x at *
          obtain ⟨nm, vl⟩ := x
          clear hx
          simp only at hy hy2 hbd hc0 hc1
          go_wp2_with (first
            | (go_at_call 65; refine (field_lower _ _ (by omega)).mono ?_; rintro e w2 ⟨rfl, hb2⟩; have hc2 := hb2.cells; have hz2 := hb2.size)
            | (at_builtin; refine wpList_app _ rfl (.tmp 32) (.tmp 36) 33 rfl w1 51 _ 2 32 Tryz.underlying33 infoFld rfl (by decide) _ _ _ rfl ((own_ext (hown.alloc _) hb2).alloc _) _ 1 1 (fldCells [(lowS name, value)]) rfl (Rd.two _ _ _ _ (by simp)) (fldCells_one _) (((hbr.alloc _).trans hb2).alloc _) (by omega) (by decide) ?_; intro A2 c2 w3 hown3 hb3 hle3))
          go_roundg (n - (k + 1))
          case measure => omega
          case rel => exact ⟨k + 1, m + 1, A2, c2, by omega, rfl, by go_num, by rw [Hhas.out, HY.out, Bool.or_true], rfl, by rw [Hst.out, fldCells_app]; exact hown3, hle3, hb3⟩
        · have Hst := Lib.hid (setTo_skip (value := value) hlt' HY.out hd)
          have Hd := Lib.hid hd; clear hd
          generalize hx : fs[k] = x at *
          obtain ⟨nm, vl⟩ := x
          clear hx
          simp only at hy hy2 hbd hc0 hc1
          go_wp2_with (first
            | (go_at_call 65; refine (field_lower _ _ (by omega)).mono ?_; rintro e w2 ⟨rfl, hb2⟩; have hc2 := hb2.cells; have hz2 := hb2.size))
          go_roundg (n - (k + 1))
          case measure => omega
          case rel => exact ⟨k + 1, m, A', c', by omega, rfl, by go_num, by rw [Hhas.out, HY.out, Bool.or_true], rfl, by rw [Hst.out]; exact own_ext (hown.alloc _) hb2, hmc, (hbr.alloc _).trans hb2⟩
      · have hy : isN name fs[k] = false := by simpa using hy
        have HY := Lib.hid hy
        have Hst := Lib.hid (setTo_keep (value := value) hlt' hy)
        unfold isN at hy
        have hy2 : ((lowS fs[k].1).toList != (lowS name).toList) = true := by simp [bne, hy]
        generalize hx : fs[k] = x at *
        obtain ⟨nm, vl⟩ := x
        clear hx
        simp only at hy hy2 hbd hc0 hc1
        generalize hhd : hasTo fs name k = hd at *
        have Hhd := Lib.hid hhd; clear hhd
        go_wp2_with (first
          | (go_at_call 65; refine (field_lower _ _ (by omega)).mono ?_; rintro e w2 ⟨rfl, hb2⟩; have hc2 := hb2.cells; have hz2 := hb2.size)
          | (at_builtin; refine wpList_app _ rfl (.tmp 25) (.tmp 27) 33 rfl w1 51 _ 2 32 Tryz.underlying33 infoFld rfl (by decide) _ _ _ rfl ((own_ext (hown.alloc _) hb2).alloc _) _ 1 1 (fldCells [(nm, vl)]) rfl (Rd.two _ _ _ _ (by simp)) (fldCells_one _) (((hbr.alloc _).trans hb2).alloc _) (by omega) (by decide) ?_; intro A2 c2 w3 hown3 hb3 hle3))
        go_roundg (n - (k + 1))
        case measure => omega
        case rel => exact ⟨k + 1, m + 1, A2, c2, by omega, rfl, by go_num, by rw [Hhas.out, HY.out, Bool.or_false], rfl, by rw [Hst.out, fldCells_app]; exact hown3, hle3, hb3⟩
    · obtain rfl : k = n := by omega
      have hl := Hl.out
      cases hd : hasTo fs name k
      · have Hst := Lib.hid (setTo_end_no (fs := fs) (name := name) (value := value) (by rw [hl]; exact hd))
        have hone := fldCells_one [(lowS name, value)]
        clear hl
        go_wp2_with (first
          | (at_builtin; refine wpList_app _ rfl (.tmp 41) (.tmp 45) 33 rfl w1 51 _ 2 32 Tryz.underlying33 infoFld rfl (by decide) _ _ _ rfl (hown.alloc _) _ 1 1 (fldCells [(lowS name, value)]) rfl (Rd.two _ _ _ _ (by simp)) hone (hbr.alloc _) (by omega) (by decide) ?_; intro A2 c2 w3 hown3 hb3 hle3))
        go_ret
        rw [← fldCells_app, ← Hl.out, Hst.out] at hown3
        exact ⟨_, _, _, rfl, Rd.of_own hown3, hle3, hb1.trans hb3, own_base hown3 hb1.size⟩
      · have Hst := Lib.hid (setTo_end_yes (fs := fs) (name := name) (value := value) (by rw [hl]; exact hd))
        clear hl
        go_wp2
        go_ret
        rw [← Hl.out, Hst.out] at hown
        exact ⟨_, _, _, rfl, Rd.of_own hown, hmc, hb1.trans hbr, own_base hown hb1.size⟩
end Go.Proofs.YtmckbcbdnckngaaGreatDoor

namespace Go.Proofs.YtmckbcbdnckngaaGreatDoor

structure Vr where
  names : List ByteArray
  key : ByteArray
  tag : ByteArray
  body : ByteArray
structure Ver where
  addr : ByteArray
  status : Int
  fs : List Fd
  body : ByteArray
  vars : List Vr
structure Rq where
  method : ByteArray
  target : ByteArray
  fs : List Fd
structure Akd where
  at_ : Int
  status : Int
  version : Int
  variant : Int
  addr : ByteArray
  lo : Int
  hi : Int
structure Org where
  vs : List (Int × Ver)
  br : List (Int × Int)
  lg : List Akd
def org0 : Org := ⟨[], [], []⟩
def cl55 (t : Int) : Int := max 0 (min t 1099511627776)
def bL (s : ByteArray) : Bs := s.data.toList
def ofL (l : Bs) : ByteArray := ⟨l.toArray⟩
def adPS (host target : ByteArray) : Option Adr := adP (bL host) (bL target)
/-- The address with a text. -/
def rdAd (s : ByteArray) : Option Adr :=
  if (47 : UInt8) ∈ bL s then
    match adP (cutL 47 (bL s)).1 (47 :: (cutL 47 (bL s)).2.1) with
    | some a => if adText a = bL s then some a else none
    | none => none
  else none
def x_et : ByteArray := ⟨#[101, 116, 97, 103]⟩
def x_lm : ByteArray := ⟨#[108, 97, 115, 116, 45, 109, 111, 100, 105, 102, 105, 101, 100]⟩
def x_dt : ByteArray := ⟨#[100, 97, 116, 101]⟩
def x_ag : ByteArray := ⟨#[97, 103, 101]⟩
def x_cl : ByteArray := ⟨#[99, 111, 110, 116, 101, 110, 116, 45, 108, 101, 110, 103, 116, 104]⟩
def x_cr : ByteArray := ⟨#[99, 111, 110, 116, 101, 110, 116, 45, 114, 97, 110, 103, 101]⟩
def x_te : ByteArray := ⟨#[116, 114, 97, 110, 115, 102, 101, 114, 45, 101, 110, 99, 111, 100, 105, 110, 103]⟩
def x_co : ByteArray := ⟨#[99, 111, 110, 110, 101, 99, 116, 105, 111, 110]⟩
def x_cc : ByteArray := ⟨#[99, 97, 99, 104, 101, 45, 99, 111, 110, 116, 114, 111, 108]⟩
def x_m1 : ByteArray := ⟨#[109, 97, 120, 45, 97, 103, 101, 61, 49]⟩
def x_ho : ByteArray := ⟨#[104, 111, 115, 116]⟩
def x_rg : ByteArray := ⟨#[114, 97, 110, 103, 101]⟩
def x_ex : ByteArray := ⟨#[101, 120, 112, 105, 114, 101, 115]⟩
def x_sk : ByteArray := ⟨#[115, 117, 114, 114, 111, 103, 97, 116, 101, 45, 107, 101, 121]⟩
def x_va : ByteArray := ⟨#[118, 97, 114, 121]⟩
def sixN : List ByteArray := [x_dt, x_ag, x_cl, x_cr, x_te, x_co]
def keptN : List ByteArray := [x_cc, x_et, x_ex, x_lm, x_sk, x_va]
def brief : List Fd := [(x_cc, x_m1)]
def bigVr (v : Ver) : Bool := decide (65536 < v.body.size) || decide (8 < v.vars.length) || v.vars.any fun x => decide (65536 < x.body.size)
def nameOk (n : ByteArray) : Bool := nameE n == 0 && nameS n == n
def okVr (v : Ver) : Bool :=
  (rdAd v.addr).isSome && decide (200 ≤ v.status) && decide (v.status ≤ 599) && chkS v.fs == 0 && sixN.all (fun n => (allS v.fs n).isEmpty) && v.vars.all fun x => x.names.all nameOk
/-- Publish: the number of the version, the error's number, and the origin behind it. -/
def pubS (o : Org) (t : Int) (v : Ver) : Int × Nat × Org :=
  if bigVr v || decide (4096 ≤ o.vs.length) then (0, 5, o)
  else if !okVr v then (0, 2, o)
  else match o.vs.getLast? with
    | some p => if cl55 t < p.1 then (0, 7, o) else (o.vs.length + 1, 0, { o with vs := o.vs ++ [(cl55 t, v)] })
    | none => (o.vs.length + 1, 0, { o with vs := o.vs ++ [(cl55 t, v)] })
/-- The number of the last version of an address up to a time; 0 if there is none. -/
def findS : List (Int × Ver) → ByteArray → Int → Nat
  | [], _, _ => 0
  | p :: l, text, t => if findS l text t = 0 then (if p.2.addr == text && decide (p.1 ≤ t) then 1 else 0) else findS l text t + 1
/-- The fields, the body and the number of the variant that a request selects. -/
def chsS (v : Ver) (fs : List Fd) : Nat → List Vr → List Fd × ByteArray × Nat
  | _, [] => (v.fs, v.body, 0)
  | k, x :: l => if vkyS x.names fs == x.key then ((if x.tag.size == 0 then remS v.fs x_et else setS x_et x.tag v.fs), x.body, k + 1) else chsS v fs (k + 1) l
def chS (v : Ver) (fs : List Fd) : List Fd × ByteArray × Nat := chsS v fs 0 v.vars
def stS (fs : List Fd) : St :=
  let t := (getO fs x_et).bind tagS
  let m := (getO fs x_lm).bind dateP
  { ex := true, ht := t.isSome, hm := m.isSome, tw := (t.getD (false, ⟨#[]⟩)).1, tt := (t.getD (false, ⟨#[]⟩)).2, md := m.getD 0 }
def kptS (fs : List Fd) : List Fd := fs.filter fun f => keptN.any (· == f.1)
/-- An answer before the fields that all answers have. -/
structure Ans where
  status : Int
  version : Int
  variant : Int
  addr : ByteArray
  fs : List Fd
  body : ByteArray
  lo : Int
  hi : Int
  ranged : Bool
def ans0 : Ans := ⟨0, 0, 0, ⟨#[]⟩, [], ⟨#[]⟩, 0, 0, false⟩
def partS (a : Ans) (r : Rq) (s : St) : Ans :=
  match allS r.fs x_rg with
  | [v] =>
    if !(r.method.toList == [71, 69, 84]) || !urF r.method r.fs s then a
    else if (rgP v a.body.size).1 == 1 then { a with status := 416, fs := [(x_cr, ⟨#[98, 121, 116, 101, 115, 32, 42, 47]⟩ ++ decV a.body.size)], body := ⟨#[]⟩ }
    else match rgP v a.body.size with
      | (0, [q]) => match crP q a.body.size with
        | some text => { a with status := 206, fs := setS x_cr text a.fs, body := a.body.extract q.1.toNat q.2.toNat, lo := q.1, hi := q.2, ranged := true }
        | none => a
      | _ => a
  | _ => a
def verS (a : Ans) (v : Ver) (r : Rq) : Ans :=
  let c := chS v r.fs
  let a1 := { a with status := v.status, fs := c.1, body := c.2.1, variant := c.2.2 }
  if v.status != 200 then a1
  else
    let e := evF r.method r.fs (stS c.1)
    if e == 2 then { a1 with status := 304, fs := kptS c.1, body := ⟨#[]⟩ }
    else if e == 3 then { a1 with status := 412, fs := [], body := ⟨#[]⟩ }
    else partS a1 r (stS c.1)
/-- What is answered to a request at a time, by the rules. -/
def decS55 (o : Org) (t : Int) (r : Rq) : Ans :=
  if o.br.any (fun b => decide (b.1 ≤ t) && decide (t < b.2)) then { ans0 with status := 503 }
  else if !(r.method.toList == [71, 69, 84]) && !(r.method.toList == [72, 69, 65, 68]) then { ans0 with status := 405 }
  else match allS r.fs x_ho with
    | [h] => match adPS h r.target with
      | none => { ans0 with status := 400 }
      | some a =>
        let text := ofL (adText a)
        let n := findS o.vs text t
        match o.vs[n - 1]? with
        | some p => if n = 0 then { ans0 with status := 404, addr := text, fs := brief } else verS { ans0 with addr := text, version := n } p.2 r
        | none => { ans0 with status := 404, addr := text, fs := brief }
    | _ => { ans0 with status := 400 }
/-- The answer's status, its fields, its body, and the origin behind it. -/
def answS (o : Org) (t : Int) (r : Rq) : Int × List Fd × ByteArray × Org :=
  let a := decS55 o (cl55 t) r
  let f := setS x_dt (fmtS (cl55 t / 1000)) a.fs
  let empty := a.status == 204 || a.status == 304
  let f2 := if empty then f else setS x_cl (decV a.body.size) f
  let body := if empty || r.method.toList == [72, 69, 65, 68] then ⟨#[]⟩ else a.body
  let k : Akd := ⟨cl55 t, a.status, a.version, a.variant, a.addr, if a.status == 206 then a.lo else 0, if a.status == 206 then a.hi else body.size⟩
  (a.status, f2, body, { o with lg := o.lg ++ [k] })
end Go.Proofs.YtmckbcbdnckngaaGreatDoor
