
/- The walk of validator.ReadTags. -/
import Derived.Test.YtghaopeijncgaaaDoorTag2
import Derived.Test.YtghaopeijncgaaaDoorPl10
import Derived.Test.YtghaopeijncgaaaDoorMem
namespace Go.Proofs.YtghaopeijncgaaaDoor
open Go.RowKit

theorem idxB (l : List UInt8) : Lib.indexByte l 34 = if (twq l).length < l.length then ((twq l).length : Int) else -1 := by
  unfold twq
  induction l with
  | nil => rfl
  | cons x r ih =>
    unfold Lib.indexByte
    by_cases h : x = 34
    · subst h; simp
    · rw [if_neg (by simpa using h)]
      have ht : (x :: r).takeWhile (· != 34) = x :: r.takeWhile (· != 34) := by simp [h]
      rw [ht]
      simp only [List.length_cons]
      by_cases h2 : (r.takeWhile (· != 34)).length < r.length
      · rw [if_pos h2] at ih
        rw [ih, if_neg (by rw [beq_iff_eq]; omega), if_pos (by omega)]; omega
      · rw [if_neg h2] at ih
        rw [ih, if_pos (by decide), if_neg (by omega)]
theorem q1 {l : List UInt8} (h : (twq l).length < l.length) : dwq l = l.drop ((twq l).length + 1) := by
  have hs := split34 l h
  generalize twq l = a at *
  generalize dwq l = b at *
  rw [hs]
  rw [show a ++ 34 :: b = (a ++ [34]) ++ b by simp, List.drop_append_of_le_length (by simp), List.drop_of_length_le (by simp)]; rfl
theorem q2 {l : List UInt8} (h : (twq l).length < l.length) (h2 : (twq (dwq l)).length < (dwq l).length) : l.take ((twq l).length + (twq (dwq l)).length + 2) = twq l ++ 34 :: (twq (dwq l) ++ [34]) := by
  have hs := split34 l h
  have hs2 := split34 _ h2
  generalize twq l = a at *
  generalize dwq l = b at *
  generalize twq b = m at *
  generalize dwq b = t at *
  rw [hs, hs2, show a ++ 34 :: (m ++ 34 :: t) = (a ++ 34 :: (m ++ [34])) ++ t by simp]
  rw [List.take_append_of_le_length (by simp; omega), List.take_of_length_le (by simp; omega)]
theorem q3 {l : List UInt8} (h : (twq l).length < l.length) (h2 : (twq (dwq l)).length < (dwq l).length) : dwq (dwq l) = l.drop ((twq l).length + (twq (dwq l)).length + 2) := by
  rw [q1 h2]
  generalize (twq (dwq l)).length = g at *
  rw [q1 h, List.drop_drop]
  congr 1; omega
theorem q4 {l : List UInt8} (h : (twq l).length < l.length) (h2 : (twq (dwq l)).length < (dwq l).length) : (twq l).length + (twq (dwq l)).length + 2 ≤ l.length := by
  have h3 := congrArg List.length (q1 h)
  rw [List.length_drop] at h3
  omega

section
variable {n : Nat} {X : ByteArray} {out : List Tg}
theorem rd_end : rdL (n + 1) (⟨#[]⟩ : ByteArray).data.toList out = if out = [] then none else some out := rfl
theorem X_ne (h : 0 < X.size) : X.data.toList ≠ [] := by
  intro e
  have h1 : X.data.toList.length = X.size := by simp
  rw [e, List.length_nil] at h1
  omega
theorem X_head (h : 0 < X.size) : X.data.toList.head? = some X[0] := by
  obtain ⟨⟨l⟩⟩ := X
  cases l with
  | nil => exact absurd h (by decide)
  | cons c r => rfl
theorem rd_comma (h : 0 < X.size) (hc : (X[0].toNat : Int) = 44) : rdL (n + 1) X.data.toList out = rdL n (lefT (X.extract 1 X.size).data.toList) out := by
  rw [rdL, if_neg (X_ne h), if_pos (by rw [X_head h, u8c hc]), ext_drop]
where u8c {c : UInt8} (h : (c.toNat : Int) = 44) : c = 44 := UInt8.toNat_inj.1 (by show c.toNat = 44; omega)
theorem not44 {c : UInt8} (hc : ¬ (c.toNat : Int) = 44) : c ≠ 44 := fun e => hc (by rw [e]; rfl)
theorem rd_step (h : 0 < X.size) (hc : ¬ (X[0].toNat : Int) = 44) : rdL (n + 1) X.data.toList out =
    if (twq X.data.toList).length < X.data.toList.length then
      (if (twq (dwq X.data.toList)).length < (dwq X.data.toList).length then
        match tagS (mkB (twq X.data.toList ++ 34 :: (twq (dwq X.data.toList) ++ [34]))) with
        | none => none
        | some t => (if (lefT (dwq (dwq X.data.toList))) ≠ [] ∧ (lefT (dwq (dwq X.data.toList))).head? ≠ some 44 then none else rdL n (lefT (dwq (dwq X.data.toList))) (out ++ [t]))
      else none)
    else none := by
  rw [rdL, if_neg (X_ne h), if_neg (by rw [X_head h]; intro e; injection e with e; exact not44 hc e)]
  rfl
end

/-- Tags as cells. -/
def tgCells (l : List Tg) : List Value := l.flatMap fun t => [.bool t.1, .string t.2]
theorem tgCells_len (l : List Tg) : (tgCells l).length = l.length * 2 := by
  induction l with
  | nil => rfl
  | cons x l ih => simp only [tgCells, List.flatMap_cons, List.length_append, List.length_cons, List.length_nil] at *; omega
theorem tgCells_one (l : List Tg) : ∀ u ∈ tgCells l, u.oneCell' = true := by
  intro u hu
  obtain ⟨t, _, ht⟩ := List.mem_flatMap.1 hu
  simp only [List.mem_cons, List.not_mem_nil, or_false] at ht
  rcases ht with rfl | rfl <;> rfl
theorem tgCells_app (l m : List Tg) : tgCells (l ++ m) = tgCells l ++ tgCells m := by simp [tgCells]
abbrev RdT (w : World) (A : Option Addr) (n : Nat) (ts : List Tg) : Prop := Rd w 2 A n (tgCells ts)
def isStar (s : ByteArray) : Bool := (trimF s).toList == [42]
/-- The tags of a list. -/
def tgO (s : ByteArray) : Option (List Tg) := if isStar s then some [] else rdL ((trimF s).size + 1) (trimF s).data.toList []
def tgE (o : Option (List Tg)) : Nat := if o.isSome then 0 else 2
theorem infoTg : (Tryd.prog.info? 24).map (fun i => (i.zero, i.size, i.bytes)) = some (some (.agg #[.bool false, .string ⟨#[]⟩]), 2, 24) := by kernel_rfl
theorem isE_no' {x : ByteArray} (h : 0 < x.size) : x.toList.isEmpty = false := by
  rw [Bool.eq_false_iff, ByteArray.toList_eq]
  intro he
  have := congrArg List.length (List.isEmpty_iff.1 he)
  rw [List.length_nil] at this
  have h1 : x.data.toList.length = x.size := by simp
  omega
theorem TrimLeft_blank (s : ByteArray) (w : World) :
    Calls Tryd.prog 39 #[.string s, .string ⟨#[32, 9]⟩] w fun e w' => e = .returned (.string (mkB (lefT s.data.toList))) ∧ Ext w w' :=
  Any.strings_TrimLeft_laid Tryd.lays161 (by kernel_rfl) s ⟨#[32, 9]⟩ w (by decide) (ascii_of_all (by decide))
theorem mkB_size (l : List UInt8) : (mkB l).size = l.length := by simp [mkB, ByteArray.size]
theorem mkB_list (l : List UInt8) : (mkB l).data.toList = l := by simp [mkB]

set_option maxHeartbeats 2000000 in
set_option maxRecDepth 100000 in
theorem val_ReadTags (s : ByteArray) (w : World) (hs : s.size ≤ 1048576) :
    Calls Tryd.prog 16 #[.string s] w fun e w' => ∃ A n c, e = .returned (.tuple #[.slice A n c, .bool (isStar s), errV (tgE (tgO s))]) ∧
      RdT w' A n ((tgO s).getD []) ∧ n ≤ c ∧ n ≤ s.size ∧ Ext w w' := by
  have hts := trimF_size s
  go_enter Tryd.func16, Tryd.ntmps16
  go_wp2_with fail
  refine (strings_Trim_blank s _ (by omega)).mono ?_; rintro e w1 ⟨rfl, hb1⟩
  have Hst := Lib.hid (show isStar s = ((trimF s).toList == [42]) from rfl)
  have Ho := Lib.hid (show tgO s = if isStar s then some [] else rdL ((trimF s).size + 1) (trimF s).data.toList [] from rfl)
  generalize trimF s = T at *
  cases hst : isStar s
  · rw [hst] at Hst Ho
    have hq := Hst.out.symm
    have HO := Lib.hid (show rdL (T.size + 1) T.data.toList [] = tgO s by rw [Ho.out]; rfl)
    have Hs := Lib.hid hst; clear hst Hst Ho
    go_wp2_with fail
    go_loopw [0, 2] (fun x v wr => ∃ X OUT m A' c' N, x = .string X ∧ v = .slice A' m c' ∧ wr.ownsRow w1.heap.size 24 2 (.slice A' m c') m (tgCells OUT) ∧ m ≤ c' ∧ m + X.size ≤ T.size ∧ X.size < N ∧ rdL N X.data.toList OUT = tgO s ∧ Ext w1 wr) (fun x _ _ => lenOf' x)
    case atStart => exact ⟨T, [], 0, none, 0, T.size + 1, rfl, rfl, World.ownsRow_nil _ _ _ _, Nat.le_refl _, by omega, by omega, HO.out, Ext.refl _⟩
    case round =>
      obtain ⟨X, OUT, m, A', c', N, rfl, rfl, hown, hmc, hmX, hXN, hrd, hbr⟩ := hrel
      have Hrd := Lib.hid hrd; clear hrd
      have hm1 := hown.1
      rw [tgCells_len] at hm1
      have Hm := Lib.hid (show OUT.length = m by omega); clear hm1
      obtain ⟨n, rfl⟩ : ∃ n, N = n + 1 := ⟨N - 1, by omega⟩
      rcases Nat.eq_zero_or_pos X.size with h0 | h0
      · obtain rfl := ByteArray.size_eq_zero_iff.1 h0
        have Hend := Lib.hid (show (if OUT = [] then none else some OUT) = tgO s from Hrd.out)
        by_cases hm0 : m = 0
        · have HN := Lib.hid (show tgO s = none by rw [← Hend.out, if_pos (List.eq_nil_of_length_eq_zero (by rw [Hm.out]; exact hm0))])
          have hz : ((m : Int) == 0) = true := by rw [beq_iff_eq]; omega
          clear hm0
          go_wp2_with fail
          go_ret3
          exact ⟨none, 0, 0, by rw [Hs.out, HN.out]; rfl, by rw [HN.out]; exact Rd.none_ _ _ _, Nat.le_refl _, Nat.zero_le _, hb1.trans hbr⟩
        · have HY := Lib.hid (show tgO s = some OUT by rw [← Hend.out, if_neg (by intro e; rw [e] at Hm; exact hm0 Hm.out.symm)])
          have hz : ((m : Int) == 0) = false := by rw [beq_eq_false_iff_ne]; omega
          go_wp2_with fail
          go_ret3
          exact ⟨_, _, _, by rw [Hs.out, HY.out]; rfl, by rw [HY.out]; exact Rd.of_own hown, hmc, by omega, hb1.trans hbr⟩
      · have hne : X.toList.isEmpty = false := isE_no' h0
        by_cases h44 : (X[0].toNat : Int) = 44
        · have HF := Lib.hid ((rd_comma (n := n) (out := OUT) h0 h44).symm.trans Hrd.out); clear Hrd
          go_wp2_with fail
          refine (TrimLeft_blank _ _).mono ?_; rintro e w2 ⟨rfl, hb2⟩
          have hl := lefT_len (X.extract 1 X.size).data.toList
          have hxs : (X.extract 1 X.size).data.toList.length = X.size - 1 := by rw [ext_drop, List.length_drop]; simp
          have hY := mkB_size (lefT (X.extract 1 X.size).data.toList)
          have hYl := Lib.hid (mkB_list (lefT (X.extract 1 X.size).data.toList))
          rw [hxs] at hl
          clear hxs
          generalize hg : mkB (lefT (X.extract 1 X.size).data.toList) = Y at *
          clear hg
          go_wp2_with fail
          go_roundw
          case rel => exact ⟨Y, OUT, m, A', c', n, rfl, rfl, own_ext hown hb2, hmc, by omega, by omega, by rw [hYl.out]; exact HF.out, hbr.trans hb2⟩
          case measure => show Y.size < X.size; omega
        · have HF := Lib.hid ((rd_step (n := n) (out := OUT) h0 h44).symm.trans Hrd.out); clear Hrd
          have hn44 : ((X[0].toNat : Int) == 44) = false := by rw [beq_eq_false_iff_ne]; exact h44
          have hi1 := Lib.hid (idxB X.data.toList)
          have hXl : X.data.toList.length = X.size := by simp
          by_cases hf : (twq X.data.toList).length < X.data.toList.length
          · have hi1' := hi1.out.trans (if_pos hf)
            have Hi1 := Lib.hid hi1'; clear hi1' hi1
            have hq1 := Lib.hid (show (X.extract ((twq X.data.toList).length + 1) X.size).data.toList = dwq X.data.toList by rw [ext_drop]; exact (q1 hf).symm)
            by_cases hg : (twq (dwq X.data.toList)).length < (dwq X.data.toList).length
            · have hq4 := q4 hf hg
              have Hi2 := Lib.hid ((idxB (dwq X.data.toList)).trans (if_pos hg))
              have Hq2 := Lib.hid (show X.extract 0 ((twq X.data.toList).length + (twq (dwq X.data.toList)).length + 2) = mkB (twq X.data.toList ++ 34 :: (twq (dwq X.data.toList) ++ [34])) from bytes_ext (by rw [ext_take, mkB_list]; exact q2 hf hg))
              have Hq3 := Lib.hid (show (X.extract ((twq X.data.toList).length + (twq (dwq X.data.toList)).length + 2) X.size).data.toList = dwq (dwq X.data.toList) by rw [ext_drop]; exact (q3 hf hg).symm)
              have HF2 := Lib.hid (by have h := HF.out; rwa [if_pos hf, if_pos hg] at h); clear HF
              generalize mkB (twq X.data.toList ++ 34 :: (twq (dwq X.data.toList) ++ [34])) = Z at *
              have Hdd := Lib.hid (lefT_len (dwq (dwq X.data.toList)))
              have Hdl := Lib.hid (show (dwq (dwq X.data.toList)).length + ((twq X.data.toList).length + (twq (dwq X.data.toList)).length + 2) = X.size by
                have := congrArg List.length (q3 hf hg)
                rw [List.length_drop] at this; omega)
              rw [hXl] at hq4
              generalize dwq (dwq X.data.toList) = D2 at *
              generalize (twq X.data.toList).length = f at *
              generalize hD : dwq X.data.toList = D1 at *
              generalize (twq D1).length = g at *
              clear hf hg hD hXl
              go_wp2_with fail
              refine (Tryd.strings_IndexByte X 34 _).mono ?_; rintro e w2 ⟨rfl, rfl⟩
              rw [show Lib.indexByte X.data.toList ((34 : Int).toNat.toUInt8) = (f : Int) from Hi1.out]
              go_wp2_with fail
              refine (Tryd.strings_IndexByte _ 34 _).mono ?_; rintro e w3 ⟨rfl, rfl⟩
              rw [show Lib.indexByte (X.extract (f + 1) X.size).data.toList ((34 : Int).toNat.toUInt8) = (g : Int) by rw [hq1.out]; exact Hi2.out]
              go_wp2_with fail
              refine (val_ReadTag _ _ (by rw [ByteArray.size_extract]; omega)).mono ?_; rintro e w4 ⟨rfl, hb4⟩
              rw [Hq2.out]
              cases ht : tagS Z with
              | none =>
                have HN := Lib.hid (show tgO s = none by have h := HF2.out; rw [ht] at h; exact h.symm); clear ht HF2
                rw [show tagV none = .agg #[.bool false, .string ⟨#[]⟩] from rfl, show errV (tagE none) = .iface 34 (.int .i64 2) from rfl]
                go_wp2_with fail
                go_ret3
                exact ⟨none, 0, 0, by rw [Hs.out, HN.out]; rfl, by rw [HN.out]; exact Rd.none_ _ _ _, Nat.le_refl _, Nat.zero_le _, hb1.trans ((hbr.trans hb4).alloc _)⟩
              | some t =>
                obtain ⟨tw, tt⟩ := t
                have HF3 := Lib.hid (by have h := HF2.out; rw [ht] at h; exact h); clear ht HF2
                rw [show tagV (some (tw, tt)) = .agg #[.bool tw, .string tt] from rfl, show errV (tagE (some (tw, tt))) = .nilIface from rfl]
                have hown4 := (own_ext hown hb4).alloc (.cells #[.bool tw, .string tt] 24)
                have hbr4 := (hbr.trans hb4).alloc (.cells #[.bool tw, .string tt] 24)
                go_wp2_with (first
                  | (at_builtin; refine wpList_app _ rfl (.tmp 49) (.tmp 51) 36 rfl w1 24 _ 2 24 Tryd.underlying36 infoTg rfl (by decide) _ _ _ rfl (hown4.alloc _) _ 1 1 (tgCells [(tw, tt)]) rfl (Rd.two _ _ _ _ (by simp)) (tgCells_one _) (hbr4.alloc _) (by omega) (by decide) ?_; intro A5 c5 w5 hown5 hb5 hle5))
                refine (TrimLeft_blank _ _).mono ?_; rintro e w6 ⟨rfl, hb6⟩
                rw [Hq3.out]
                have hY := mkB_size (lefT D2)
                have hYl := Lib.hid (mkB_list (lefT D2))
                have hYz : (lefT D2).length + 2 ≤ X.size := by have h1 := Hdd.out; have h2 := Hdl.out; omega
                rw [← hY] at hYz
                generalize hg : mkB (lefT D2) = Y at *
                clear hg hY
                have hown6 := own_ext hown5 hb6
                have hb16 := hb5.trans hb6
                rcases Nat.eq_zero_or_pos Y.size with hy0 | hy0
                · have hye : Y.toList.isEmpty = true := by rw [ByteArray.toList_eq]; obtain rfl := ByteArray.size_eq_zero_iff.1 hy0; rfl
                  have hyl : lefT D2 = [] := by rw [← hYl.out]; obtain rfl := ByteArray.size_eq_zero_iff.1 hy0; rfl
                  have HF4 := Lib.hid (by have h := HF3.out; rwa [if_neg (by rw [hyl]; simp)] at h); clear HF3
                  go_wp2_with fail
                  go_roundw
                  case rel => exact ⟨Y, OUT ++ [(tw, tt)], m + 1, A5, c5, n, rfl, rfl, by rw [tgCells_app]; exact hown6, hle5, by omega, by omega, by rw [hYl.out]; exact HF4.out, hb16⟩
                  case measure => show Y.size < X.size; omega
                · have hye := isE_no' hy0
                  have hhd := X_head hy0
                  rw [hYl.out] at hhd
                  by_cases hy44 : (Y[0].toNat : Int) = 44
                  · have hyb : ((Y[0].toNat : Int) != 44) = false := by simp [hy44]
                    have HF4 := Lib.hid (by have h := HF3.out; rwa [if_neg (by rw [hhd]; intro e; exact e.2 (congrArg some (UInt8.toNat_inj.1 (by show Y[0].toNat = 44; omega))))] at h); clear HF3
                    clear hhd
                    go_wp2_with fail
                    go_roundw
                    case rel => exact ⟨Y, OUT ++ [(tw, tt)], m + 1, A5, c5, n, rfl, rfl, by rw [tgCells_app]; exact hown6, hle5, by omega, by omega, by rw [hYl.out]; exact HF4.out, hb16⟩
                    case measure => show Y.size < X.size; omega
                  · have hyb : ((Y[0].toNat : Int) != 44) = true := by simp [hy44]
                    have HN := Lib.hid (show tgO s = none by
                      have h := HF3.out
                      rw [if_pos ⟨(fun e => by rw [e] at hhd; cases hhd), (by rw [hhd]; intro e; injection e with e; exact not44 hy44 e)⟩] at h
                      exact h.symm)
                    clear hhd HF3
                    go_wp2_with fail
                    go_ret3
                    exact ⟨none, 0, 0, by rw [Hs.out, HN.out]; rfl, by rw [HN.out]; exact Rd.none_ _ _ _, Nat.le_refl _, Nat.zero_le _, hb1.trans hb16⟩
            · have HN := Lib.hid (show tgO s = none by rw [← HF.out, if_pos hf, if_neg hg])
              have Hi2 := Lib.hid ((idxB (dwq X.data.toList)).trans (if_neg hg))
              rw [hXl] at hf
              generalize (twq X.data.toList).length = f at *
              clear hg HF hXl
              go_wp2_with fail
              refine (Tryd.strings_IndexByte X 34 _).mono ?_; rintro e w2 ⟨rfl, rfl⟩
              rw [show Lib.indexByte X.data.toList ((34 : Int).toNat.toUInt8) = (f : Int) from Hi1.out]
              go_wp2_with fail
              refine (Tryd.strings_IndexByte _ 34 _).mono ?_; rintro e w3 ⟨rfl, rfl⟩
              rw [show Lib.indexByte (X.extract (f + 1) X.size).data.toList ((34 : Int).toNat.toUInt8) = -1 by rw [hq1.out]; exact Hi2.out]
              go_wp2_with fail
              go_ret3
              exact ⟨none, 0, 0, by rw [Hs.out, HN.out]; rfl, by rw [HN.out]; exact Rd.none_ _ _ _, Nat.le_refl _, Nat.zero_le _, hb1.trans hbr⟩
          · have HN := Lib.hid (show tgO s = none by rw [← HF.out, if_neg hf])
            have Hi1 := Lib.hid (hi1.out.trans (if_neg hf))
            clear hf HF hXl
            go_wp2_with fail
            refine (Tryd.strings_IndexByte X 34 _).mono ?_; rintro e w2 ⟨rfl, rfl⟩
            rw [show Lib.indexByte X.data.toList ((34 : Int).toNat.toUInt8) = -1 from Hi1.out]
            go_wp2_with fail
            go_ret3
            exact ⟨none, 0, 0, by rw [Hs.out, HN.out]; rfl, by rw [HN.out]; exact Rd.none_ _ _ _, Nat.le_refl _, Nat.zero_le _, hb1.trans hbr⟩
  · rw [hst] at Hst Ho
    have hq := Hst.out.symm
    have Hs := Lib.hid hst; clear hst Hst
    go_wp2_with fail
    go_ret3
    exact ⟨none, 0, 0, by rw [Hs.out, Ho.out]; rfl, by rw [Ho.out]; exact Rd.none_ _ _ _, Nat.le_refl _, Nat.zero_le _, hb1⟩
end Go.Proofs.YtghaopeijncgaaaDoor
