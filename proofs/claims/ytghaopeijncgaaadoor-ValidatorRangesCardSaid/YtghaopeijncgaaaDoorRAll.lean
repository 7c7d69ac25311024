
/- The walk of quaysideref10.ReadAll. -/
import Derived.Test.YtghaopeijncgaaaDoorTags
namespace Go.Proofs.YtghaopeijncgaaaDoor
open Go.RowKit

theorem ext_sn (s : ByteArray) {st i : Nat} (hst : st ≤ i) (hi : i < s.size) : (s.extract st (i + 1)).data.toList = (s.extract st i).data.toList ++ [s[i]] := by
  rw [← ByteArray.toList_eq, ← ByteArray.toList_eq, Lib.extract_toList, Lib.extract_toList]
  rw [show i + 1 - st = (i - st) + 1 by omega]
  have hl : i - st < (s.data.toList.drop st).length := by
    rw [List.length_drop]
    have : s.data.toList.length = s.size := by simp
    omega
  rw [List.take_succ_eq_append_getElem hl]
  congr 2
  rw [List.getElem_drop]
  simp only [Array.getElem_toList]
  have : st + (i - st) = i := by omega
  simp only [this]
  rfl
theorem drop_cn (s : ByteArray) {i : Nat} (hi : i < s.size) : s.data.toList.drop i = s[i] :: s.data.toList.drop (i + 1) := by
  rw [List.drop_eq_getElem_cons (by simpa using hi)]; rfl
theorem dropR {l : List UInt8} : ∃ bs, (∀ c ∈ bs, bl c = true) ∧ l = Lib.trimRightS l blank ++ bs := by
  obtain ⟨bs, h1, h2, _⟩ := left_split l.reverse
  refine ⟨bs.reverse, fun c hc => h1 c (List.mem_reverse.1 hc), ?_⟩
  have h3 := congrArg List.reverse h2
  rw [List.reverse_reverse, List.reverse_append] at h3
  exact h3
theorem trimS_bl (cur : List UInt8) {bs : List UInt8} (hb : ∀ c ∈ bs, bl c = true) : Lib.trimS (cur ++ bs) blank = Lib.trimS cur blank := by
  unfold Lib.trimS Lib.trimRightS
  rw [List.reverse_append, dwAll (p := (blank.contains ·)) (a := bs.reverse) cur.reverse (fun c hc => hb c (List.mem_reverse.1 hc))]
theorem rf_blR {bs : List UInt8} (hb : ∀ c ∈ bs, bl c = true) : ∀ (l : List UInt8) (q : Bool) (cur : List UInt8) (out : List Tg), rfL (l ++ bs) q cur out = rfL l q cur out
  | [], q, cur, out => by
    have hp : ∀ c ∈ bs, c ≠ 34 ∧ c ≠ 44 := fun d hd => by
      have := hb d hd
      exact ⟨fun e => by subst e; exact absurd this (by decide), fun e => by subst e; exact absurd this (by decide)⟩
    have key : rfL bs q cur out = addP (cur ++ bs) out := by
      cases q
      · have := rf_part (p := bs) [] out hp cur
        rw [List.append_nil] at this
        rw [this]; rfl
      · have := rf_quo (p := bs) [] out (fun c hc => (hp c hc).1) cur
        rw [List.append_nil] at this
        rw [this]; rfl
    rw [List.nil_append, key]
    show addP (cur ++ bs) out = addP cur out
    unfold addP trimQ
    rw [trimS_bl cur hb]
  | c :: l, q, cur, out => by
    rw [List.cons_append]
    simp only [rfL]
    split
    · exact rf_blR hb l _ _ _
    · cases addP cur out with
      | none => rfl
      | some o => exact rf_blR hb l _ _ _
theorem rf_trim (s : ByteArray) (out : List Tg) : rfL (trimF s).data.toList false [] out = rfL s.data.toList false [] out := by
  obtain ⟨bs, h1, h2⟩ := dropR (l := s.data.toList)
  conv => rhs; rw [h2, rf_blR h1, ← rf_left]
  congr 1
theorem trimF_head (s : ByteArray) : ∀ c, (trimF s).data.toList.head? = some c → bl c = false := by
  intro c hc
  obtain ⟨_, _, _, h3⟩ := left_split (Lib.trimRightS s.data.toList blank)
  exact h3 c (by rw [← hc]; simp [trimF, Lib.trimS, lefT])
theorem tg_fin {s : ByteArray} (h : isStar s = false) : finR (rfL s.data.toList false [] []) = tgO s := by
  unfold tgO
  rw [h, if_neg (by simp), rd_rf _ _ _ (by simp) (trimF_head s), rf_trim]
section
variable {s : ByteArray} {k j : Nat} {b : Bool} {OUT : List Tg}
theorem rf_go (h : k < s.size) (hj : j ≤ k) (hq : nq s[k] b = true ∨ s[k] ≠ 44) : rfL (s.data.toList.drop k) b (s.extract j k).data.toList OUT = rfL (s.data.toList.drop (k + 1)) (nq s[k] b) (s.extract j (k + 1)).data.toList OUT := by
  rw [drop_cn s h, ext_sn s hj h]
  simp only [rfL]
  rw [if_pos hq]
theorem rf_comma (h : k < s.size) (hc : s[k] = 44) : rfL (s.data.toList.drop k) false (s.extract j k).data.toList OUT = match addP (s.extract j k).data.toList OUT with | none => none | some o => rfL (s.data.toList.drop (k + 1)) false (s.extract (k + 1) (k + 1)).data.toList o := by
  have he : (s.extract (k + 1) (k + 1)).data.toList = [] := by rw [← ByteArray.toList_eq, Lib.extract_toList]; simp
  rw [drop_cn s h, he]
  simp only [rfL, hc]
  rw [nq_no (by decide), if_neg (by simp)]
  rfl
theorem rf_end (h : k = s.size) : rfL (s.data.toList.drop k) b (s.extract j k).data.toList OUT = addP (s.extract j k).data.toList OUT := by
  subst h
  rw [List.drop_of_length_le (by simp)]; rfl
theorem add_nil (h : (trimF (s.extract j k)).size = 0) : addP (s.extract j k).data.toList OUT = some OUT := by
  unfold addP; rw [if_pos (show (trimQ (s.extract j k).data.toList).size = 0 from h)]
theorem add_none (h : 0 < (trimF (s.extract j k)).size) (ht : tagS (trimF (s.extract j k)) = none) : addP (s.extract j k).data.toList OUT = none := by
  unfold addP
  rw [if_neg (show ¬ (trimQ (s.extract j k).data.toList).size = 0 from (by show ¬ (trimF (s.extract j k)).size = 0; omega)), show tagS (trimQ (s.extract j k).data.toList) = none from ht]; rfl
theorem add_some {t : Tg} (h : 0 < (trimF (s.extract j k)).size) (ht : tagS (trimF (s.extract j k)) = some t) : addP (s.extract j k).data.toList OUT = some (OUT ++ [t]) := by
  unfold addP
  rw [if_neg (show ¬ (trimQ (s.extract j k).data.toList).size = 0 from (by show ¬ (trimF (s.extract j k)).size = 0; omega)), show tagS (trimQ (s.extract j k).data.toList) = some t from ht]; rfl
end
theorem infoRg : (Tryd.prog.info? 29).map (fun i => (i.zero, i.size, i.bytes)) = some (some (.agg #[.bool false, .string ⟨#[]⟩]), 2, 24) := by kernel_rfl

set_option maxHeartbeats 4000000 in
set_option maxRecDepth 100000 in
theorem ref_ReadAll (s : ByteArray) (w : World) (hs : s.size ≤ 1048576) :
    Calls Tryd.prog 17 #[.string s] w fun e w' => ∃ A n c, e = .returned (.tuple #[.slice A n c, .bool (isStar s), .bool (tgO s).isSome]) ∧
      RdT w' A n ((tgO s).getD []) ∧ n ≤ c ∧ n ≤ s.size + 1 ∧ Ext w w' := by
  go_enter Tryd.func17, Tryd.ntmps17
  go_wp2_with fail
  refine (ref_Trim s _ (by omega)).mono ?_; rintro e w1 ⟨rfl, hb1⟩
  have Hst := Lib.hid (show isStar s = ((trimF s).toList == [42]) from rfl)
  cases hst : isStar s
  · have hq := Hst.out.symm.trans hst
    have Hfin := Lib.hid (tg_fin hst)
    have Hs := Lib.hid hst; clear hst Hst
    go_wp2_with fail
    generalize trimF s = T at *
    generalize hR0 : rfL s.data.toList false [] [] = R0 at *
    have HR0 := Lib.hid hR0; clear hR0
    go_loopw [5, 6, 7, 18] (fun v f q i wr => ∃ k j b OUT m A' c', k ≤ s.size + 1 ∧ i = .int .i64 (k : Nat) ∧ f = .int .i64 (j : Nat) ∧ j ≤ k ∧ q = .bool b ∧ v = .slice A' m c' ∧ wr.ownsRow w1.heap.size 29 2 (.slice A' m c') m (tgCells OUT) ∧ m ≤ c' ∧ m ≤ k ∧ (k ≤ s.size → rfL (s.data.toList.drop k) b (s.extract j k).data.toList OUT = R0) ∧ (k = s.size + 1 → R0 = some OUT) ∧ Ext w1 wr) (fun _ _ _ i _ => s.size + 1 - (intOf i).toNat)
    case atStart => exact ⟨0, 0, false, [], 0, none, 0, by omega, rfl, rfl, Nat.le_refl _, rfl, rfl, World.ownsRow_nil _ _ _ _, Nat.le_refl _, Nat.le_refl _, (fun _ => by rw [← HR0.out, show (s.extract 0 0).data.toList = [] by rw [← ByteArray.toList_eq, Lib.extract_toList]; simp]; rfl), (fun h => by omega), Ext.refl _⟩
    case round =>
      obtain ⟨k, j, b, OUT, m, A', c', hk, rfl, rfl, hjk, rfl, rfl, hown, hmc, hmk, hrel1, hrel2, hbr⟩ := hrel
      have H1 := Lib.hid hrel1; have H2 := Lib.hid hrel2; clear hrel1 hrel2
      have hm1 := hown.1
      rw [tgCells_len] at hm1
      have Hm := Lib.hid (show OUT.length = m by omega); clear hm1
      by_cases hlt : k < s.size
      · have HF := Lib.hid (H1.out (by omega)); clear H1 H2
        by_cases h34 : (s[k].toNat : Int) = 34
        · have HG := Lib.hid ((rf_go (OUT := OUT) hlt hjk (.inr (by intro e; rw [e] at h34; exact absurd h34 (by decide)))).symm.trans HF.out); clear HF
          rw [show s[k] = 34 from UInt8.toNat_inj.1 (by show s[k].toNat = 34; omega), nq_yes] at HG
          cases b
          all_goals
            go_wp2_with fail
            go_roundw
            case rel => exact ⟨k + 1, j, _, OUT, m, A', c', by omega, by go_num, rfl, by omega, rfl, rfl, hown, hmc, by omega, (fun _ => HG.out), (fun h => by omega), hbr⟩
            case measure => simp [intOf]; omega
        · have hn34 : ((s[k].toNat : Int) == 34) = false := by rw [beq_eq_false_iff_ne]; exact h34
          have h34' : s[k] ≠ 34 := i34 h34
          cases b
          · by_cases h44 : (s[k].toNat : Int) = 44
            · have hn44 : ((s[k].toNat : Int) != 44) = false := by simp [h44]
              have HF2 := Lib.hid ((rf_comma (j := j) (OUT := OUT) hlt (UInt8.toNat_inj.1 (by show s[k].toNat = 44; omega))).symm.trans HF.out); clear HF
              go_wp2_with fail
              refine (ref_Trim _ _ (by rw [ByteArray.size_extract]; omega)).mono ?_; rintro e w2 ⟨rfl, hb2⟩
              have hps := trimF_size (s.extract j k)
              have hps2 : (s.extract j k).size ≤ s.size := by rw [ByteArray.size_extract]; omega
              rcases Nat.eq_zero_or_pos (trimF (s.extract j k)).size with hp0 | hp0
              · have HN := Lib.hid (by have h := HF2.out; rw [add_nil hp0] at h; exact h)
                have hpe : (trimF (s.extract j k)).toList.isEmpty = true := by rw [ByteArray.toList_eq, ByteArray.size_eq_zero_iff.1 hp0]; rfl
                clear HF2
                generalize trimF (s.extract j k) = p at *
                go_wp2_with fail
                go_roundw
                case rel => exact ⟨k + 1, k + 1, false, OUT, m, A', c', by omega, by go_num, by go_num, Nat.le_refl _, rfl, rfl, own_ext hown hb2, hmc, by omega, (fun _ => HN.out), (fun h => by omega), hbr.trans hb2⟩
                case measure => simp [intOf]; omega
              · have hpe := isE_no' hp0
                go_wp2_with fail
                refine (ref_Read _ _ (by omega)).mono ?_; rintro e w3 ⟨rfl, hb3⟩
                cases ht : tagS (trimF (s.extract j k)) with
                | none =>
                  have HN0 := Lib.hid (show R0 = none from by have h := HF2.out; rw [add_none hp0 ht] at h; exact h.symm)
                  have HN := Lib.hid (show tgO s = none by rw [← Hfin.out, HN0.out]; rfl)
                  rw [show tagV none = .agg #[.bool false, .string ⟨#[]⟩] from rfl, show (none : Option Tg).isSome = false from rfl]
                  clear ht HF2
                  go_wp2_with fail
                  go_ret3
                  exact ⟨none, 0, 0, by rw [Hs.out, HN.out]; rfl, by rw [HN.out]; exact Rd.none_ _ _ _, Nat.le_refl _, Nat.zero_le _, hb1.trans (((hbr.trans hb2).trans hb3).alloc _)⟩
                | some t =>
                  obtain ⟨tw, tt⟩ := t
                  have HN := Lib.hid (by have h := HF2.out; rw [add_some hp0 ht] at h; exact h)
                  rw [show tagV (some (tw, tt)) = .agg #[.bool tw, .string tt] from rfl, show (some (tw, tt)).isSome = true from rfl]
                  clear ht HF2
                  have hown4 := (own_ext (own_ext hown hb2) hb3).alloc (.cells #[.bool tw, .string tt] 29)
                  have hbr4 := ((hbr.trans hb2).trans hb3).alloc (.cells #[.bool tw, .string tt] 29)
                  go_wp2_with (first
                    | (at_builtin; refine wpList_app _ rfl (.tmp 62) (.tmp 64) 39 rfl w1 29 _ 2 24 Tryd.underlying39 infoRg rfl (by decide) _ _ _ rfl (hown4.alloc _) _ 1 1 (tgCells [(tw, tt)]) rfl (Rd.two _ _ _ _ (by simp)) (tgCells_one _) (hbr4.alloc _) (by omega) (by decide) ?_; intro A5 c5 w5 hown5 hb5 hle5))
                  go_roundw
                  case rel => exact ⟨k + 1, k + 1, false, OUT ++ [(tw, tt)], m + 1, A5, c5, by omega, by go_num, by go_num, Nat.le_refl _, rfl, rfl, by rw [tgCells_app]; exact hown5, hle5, by omega, (fun _ => HN.out), (fun h => by omega), hb5⟩
                  case measure => simp [intOf]; omega
            · have hn44 : ((s[k].toNat : Int) != 44) = true := by simp [h44]
              have HG := Lib.hid ((rf_go (OUT := OUT) hlt hjk (.inr (not44 h44))).symm.trans HF.out); clear HF
              rw [nq_no h34'] at HG
              go_wp2_with fail
              go_roundw
              case rel => exact ⟨k + 1, j, _, OUT, m, A', c', by omega, by go_num, rfl, by omega, rfl, rfl, hown, hmc, by omega, (fun _ => HG.out), (fun h => by omega), hbr⟩
              case measure => simp [intOf]; omega
          · have HG := Lib.hid ((rf_go (OUT := OUT) hlt hjk (.inl (by rw [nq_no h34']))).symm.trans HF.out); clear HF
            rw [nq_no h34'] at HG
            go_wp2_with fail
            go_roundw
            case rel => exact ⟨k + 1, j, _, OUT, m, A', c', by omega, by go_num, rfl, by omega, rfl, rfl, hown, hmc, by omega, (fun _ => HG.out), (fun h => by omega), hbr⟩
            case measure => simp [intOf]; omega
      · by_cases hke : k = s.size
        · have HF2 := Lib.hid ((rf_end (j := j) (b := b) (OUT := OUT) hke).symm.trans (H1.out (by omega))); clear H1 H2
          have hks : k ≤ s.size := by omega
          have hsk : s.size ≤ k := by omega
          clear hke
          go_wp2_with fail
          refine (ref_Trim _ _ (by rw [ByteArray.size_extract]; omega)).mono ?_; rintro e w2 ⟨rfl, hb2⟩
          have hps := trimF_size (s.extract j k)
          have hps2 : (s.extract j k).size ≤ s.size := by rw [ByteArray.size_extract]; omega
          rcases Nat.eq_zero_or_pos (trimF (s.extract j k)).size with hp0 | hp0
          · have HN := Lib.hid (by have h := HF2.out; rw [add_nil hp0] at h; exact h.symm)
            have hpe : (trimF (s.extract j k)).toList.isEmpty = true := by rw [ByteArray.toList_eq, ByteArray.size_eq_zero_iff.1 hp0]; rfl
            clear HF2
            generalize trimF (s.extract j k) = p at *
            go_wp2_with fail
            go_roundw
            case rel => exact ⟨k + 1, k + 1, b, OUT, m, A', c', by omega, by go_num, by go_num, Nat.le_refl _, rfl, rfl, own_ext hown hb2, hmc, by omega, (fun h => by omega), (fun _ => HN.out), hbr.trans hb2⟩
            case measure => simp [intOf]; omega
          · have hpe := isE_no' hp0
            go_wp2_with fail
            refine (ref_Read _ _ (by omega)).mono ?_; rintro e w3 ⟨rfl, hb3⟩
            cases ht : tagS (trimF (s.extract j k)) with
            | none =>
              have HN0 := Lib.hid (show R0 = none from by have h := HF2.out; rw [add_none hp0 ht] at h; exact h.symm)
              have HN := Lib.hid (show tgO s = none by rw [← Hfin.out, HN0.out]; rfl)
              rw [show tagV none = .agg #[.bool false, .string ⟨#[]⟩] from rfl, show (none : Option Tg).isSome = false from rfl]
              clear ht HF2
              go_wp2_with fail
              go_ret3
              exact ⟨none, 0, 0, by rw [Hs.out, HN.out]; rfl, by rw [HN.out]; exact Rd.none_ _ _ _, Nat.le_refl _, Nat.zero_le _, hb1.trans (((hbr.trans hb2).trans hb3).alloc _)⟩
            | some t =>
              obtain ⟨tw, tt⟩ := t
              have HN := Lib.hid (by have h := HF2.out; rw [add_some hp0 ht] at h; exact h.symm)
              rw [show tagV (some (tw, tt)) = .agg #[.bool tw, .string tt] from rfl, show (some (tw, tt)).isSome = true from rfl]
              clear ht HF2
              have hown4 := (own_ext (own_ext hown hb2) hb3).alloc (.cells #[.bool tw, .string tt] 29)
              have hbr4 := ((hbr.trans hb2).trans hb3).alloc (.cells #[.bool tw, .string tt] 29)
              go_wp2_with (first
                | (at_builtin; refine wpList_app _ rfl (.tmp 62) (.tmp 64) 39 rfl w1 29 _ 2 24 Tryd.underlying39 infoRg rfl (by decide) _ _ _ rfl (hown4.alloc _) _ 1 1 (tgCells [(tw, tt)]) rfl (Rd.two _ _ _ _ (by simp)) (tgCells_one _) (hbr4.alloc _) (by omega) (by decide) ?_; intro A5 c5 w5 hown5 hb5 hle5))
              go_roundw
              case rel => exact ⟨k + 1, k + 1, b, OUT ++ [(tw, tt)], m + 1, A5, c5, by omega, by go_num, by go_num, Nat.le_refl _, rfl, rfl, by rw [tgCells_app]; exact hown5, hle5, by omega, (fun h => by omega), (fun _ => HN.out), hb5⟩
              case measure => simp [intOf]; omega
        · obtain rfl : k = s.size + 1 := by omega
          have HY := Lib.hid (show finR (some OUT) = tgO s by rw [← H2.out rfl]; exact Hfin.out); clear H1 H2
          by_cases hm0 : m = 0
          · have HN := Lib.hid (show tgO s = none by rw [← HY.out, List.eq_nil_of_length_eq_zero (l := OUT) (by rw [Hm.out]; exact hm0)]; rfl)
            have HO := Lib.hid (show OUT = [] from List.eq_nil_of_length_eq_zero (by rw [Hm.out]; exact hm0))
            have hz : ¬ (0 : Int) < (m : Int) := by omega
            go_wp2_with fail
            go_ret3
            exact ⟨_, _, _, by rw [Hs.out, HN.out]; (try simp [hm0]); (try rfl), by rw [HN.out]; have := Rd.of_own hown; rw [HO.out] at this; exact this, hmc, by omega, hb1.trans hbr⟩
          · have HYY := Lib.hid (show tgO s = some OUT by
              rw [← HY.out]; unfold finR; simp only []; rw [if_neg (by intro e; rw [e] at Hm; exact hm0 Hm.out.symm)])
            have hz : (0 : Int) < (m : Int) := by omega
            go_wp2_with fail
            go_ret3
            exact ⟨A', m, c', by rw [Hs.out, HYY.out]; simp; omega, by rw [HYY.out]; exact Rd.of_own hown, hmc, by omega, hb1.trans hbr⟩
  · have hq := Hst.out.symm.trans hst
    have Ho := Lib.hid (show tgO s = some [] by unfold tgO; rw [hst, if_pos rfl])
    have Hs := Lib.hid hst; clear hst Hst
    go_wp2_with fail
    go_ret3
    exact ⟨none, 0, 0, by rw [Hs.out, Ho.out]; rfl, by rw [Ho.out]; exact Rd.none_ _ _ _, Nat.le_refl _, Nat.zero_le _, hb1⟩
end Go.Proofs.YtghaopeijncgaaaDoor

