/- StorableMixes returns true. -/
import Derived.Test.YtphgaommokgfcaaDoorJ4
set_option linter.unusedSimpArgs false
set_option linter.unusedVariables false
namespace Go.Proofs.YtphgaommokgfcaaDoor
open Go.RowKit

theorem wr_back {tw : Bool} {tt W : ByteArray} (h : wrO tw tt = some W) : tagS W = some (tw, tt) := by
  unfold wrO at h
  split at h
  · rename_i hr
    injection h with h
    subst h
    have hq : ∀ t : ByteArray, rightS t = true → txtS (qS ++ t ++ qS) = some t := by
      intro t ht
      have hsz : (qS ++ t ++ qS).size = t.size + 2 := by
        rw [ByteArray.size_append, ByteArray.size_append, show qS.size = 1 from rfl]; omega
      have hl : (qS ++ t ++ qS).data.toList = 34 :: (t.data.toList ++ [34]) := by
        rw [data_append, data_append]; rfl
      have hx : (qS ++ t ++ qS).extract 1 ((qS ++ t ++ qS).size - 1) = t := by
        apply bytes_ext
        rw [← ByteArray.toList_eq, Lib.extract_toList, hl, hsz]
        rw [List.drop_succ_cons, List.drop_zero, show t.size + 2 - 1 - 1 = t.data.toList.length by simp]
        exact List.take_left
      rw [txt_at (by omega), if_pos, hx]
      refine ⟨?_, ?_, by rw [hx]; exact ht⟩
      · have h1 : (qS ++ t ++ qS).data.toList[0]'(by rw [hl]; simp) = 34 := by simp only [hl]; rfl
        exact h1
      · have h1 : (qS ++ t ++ qS).data.toList[(qS ++ t ++ qS).size - 1]'(by rw [hl, hsz]; simp only [List.length_cons, List.length_append, List.length_nil, Array.length_toList]; show t.size + 2 - 1 < t.size + (0 + 1) + 1; omega) = 34 := by
          simp only [hl, hsz]
          have : t.size = t.data.toList.length := by simp
          simp only [this]
          simp
        exact h1
    unfold tagS
    cases tw
    · have hw : wkR (wrS false tt) = qS ++ tt ++ qS ∧ wkP (wrS false tt) = false := by
        have hl : (wrS false tt).data.toList = 34 :: (tt.data.toList ++ [34]) := by unfold wrS; rw [data_append, data_append]; rfl
        have hp : Lib.hasPrefix (34 :: (tt.data.toList ++ [34])) [87, 47] = false := by simp [Lib.hasPrefix, List.isPrefixOf]
        unfold wkR wkP Lib.trimPrefix
        rw [hl, hp]
        exact ⟨bytes_ext (by rw [data_append, data_append]; rfl), rfl⟩
      rw [hw.1, hw.2, hq tt hr]; rfl
    · have hw : wkR (wrS true tt) = qS ++ tt ++ qS ∧ wkP (wrS true tt) = true := by
        have hl : (wrS true tt).data.toList = 87 :: 47 :: 34 :: (tt.data.toList ++ [34]) := by unfold wrS; rw [data_append, data_append]; rfl
        have hp : Lib.hasPrefix (87 :: 47 :: 34 :: (tt.data.toList ++ [34])) [87, 47] = true := by simp [Lib.hasPrefix, List.isPrefixOf]
        unfold wkR wkP Lib.trimPrefix
        rw [hl, hp]
        exact ⟨bytes_ext (by rw [data_append, data_append]; rfl), rfl⟩
      rw [hw.1, hw.2, hq tt hr]; rfl
  · cases h
theorem wr_tag {wk : Bool} {t : ByteArray} (h : rightS t = true) : tagS (wrS wk t) = some (wk, t) := wr_back (by unfold wrO; rw [if_pos h])
theorem wr_plain (t : ByteArray) : qS ++ t ++ qS = wrS false t := rfl
theorem wr_weak (t : ByteArray) : (⟨#[87, 47]⟩ : ByteArray) ++ (qS ++ t ++ qS) = wrS true t := by
  apply bytes_ext
  show _ = (wqS ++ t ++ qS).data.toList
  simp only [data_append]
  rfl
theorem wr_sz (wk : Bool) (t : ByteArray) : (wrS wk t).size ≤ t.size + 4 := by
  unfold wrS
  rw [ByteArray.size_append, ByteArray.size_append, show qS.size = 1 from rfl]
  have : (if wk = true then wqS else qS).size ≤ 3 := by cases wk <;> decide
  omega
theorem tot15_one (As : Option Addr) (ns cs : Nat) (st : List Fd) : tot15 [((As, ns, cs), st)] = 2 * st.length + sumF st := by
  simp [tot15, one15]
theorem large_one (As : Option Addr) (ns cs : Nat) (st : List Fd) (w : World) (hfs : RdF w As ns st) (hbs : st.length + sumF st ≤ 1048576) (b : Nat) (hb : b = w.heap.size) :
    Calls Tryd.prog 9 #[.slice (some ⟨b, 0, none⟩) 1 1] (w.alloc (.cells #[.slice As ns cs] 22)) fun e w' => e = .returned (.bool (decide (4000 < tot15 [((As, ns, cs), st)]))) ∧ Ext w w' := by
  subst hb
  have hE := (Ext.refl w).alloc (.cells #[.slice As ns cs] 22)
  have hr : Rd (w.alloc (.cells #[.slice As ns cs] 22)) 1 (some ⟨w.heap.size, 0, none⟩) 1 (([((As, ns, cs), st)] : List Sl).map slV) := Rd.lit w #[.slice As ns cs] 22 rfl 1 1 rfl
  refine (law15_large _ 1 1 [((As, ns, cs), st)] _ hr ?_ (by rw [tot15_one]; omega) (by decide)).mono ?_
  · intro t ht
    rw [List.mem_singleton] at ht
    subst ht
    exact hfs.ext hE
  · rintro e w1 ⟨rfl, h⟩
    exact ⟨rfl, hE.trans h⟩
theorem badT_any {c : UInt8} (h : (c.toNat : Int) ≤ 32 ∨ (c.toNat : Int) = 34 ∨ (c.toNat : Int) = 127) : badT c = true := badT_yes (by omega)
theorem badT_none {c : UInt8} (h : ¬ ((c.toNat : Int) ≤ 32 ∨ (c.toNat : Int) = 34 ∨ (c.toNat : Int) = 127)) : badT c = false := badT_no (by omega)
theorem upd_eq {st fr : List Fd} (h : cflS st fr = false) : updS st fr = some (outS st fr) := by unfold updS; rw [h]; rfl
theorem upd_ne {st fr : List Fd} (h : cflS st fr = true) : updS st fr = none := by unfold updS; rw [h]; rfl
theorem rem_len15' {w : World} {A B : Option Addr} {n m : Nat} {fs : List Fd} {nm : ByteArray} (h : RdF w A n fs) {w' : World} (h' : RdF w' B m (remS fs nm)) : m ≤ n := by
  have h1 := h.lenF; have h2 := h'.lenF
  have h3 : (remS fs nm).length ≤ fs.length := List.length_filter_le _ _
  omega
theorem rem_sz15' {B : Nat} {fs : List Fd} {nm : ByteArray} (h : Bsz B fs) : Bsz B (remS fs nm) := fun f hf => h f (List.mem_filter.1 (by unfold remS at hf; exact hf)).1
theorem idx51_0 (a c : ByteArray) (w : World) : (Instr.index 51 (.agg #[.string a, .string c]) (.int .i64 0)).run Tryd.prog w = .ok (.string a) w := by kernel_rfl
theorem idx51_1 (a c : ByteArray) (w : World) : (Instr.index 51 (.agg #[.string a, .string c]) (.int .i64 1)).run Tryd.prog w = .ok (.string c) w := by kernel_rfl
set_option maxHeartbeats 16000000 in
set_option maxRecDepth 100000 in
theorem mixes_walk (As : Option Addr) (ns cs : Nat) (st : List Fd) (ta tb : ByteArray) (wa wb : Bool) (w : World) (hfs : RdF w As ns st) (hbs : st.length + sumF st ≤ 1048576) (hta : ta.size ≤ 140737488351232) (htb : tb.size ≤ 140737488351232) (hg : GlH w) (hgl : Gl w) :
    Calls Tryd.prog 8 #[.slice As ns cs, .agg #[.string ta, .string tb], .agg #[.bool wa, .bool wb]] w fun e w' => e = .returned (.bool true) ∧ Ext w w' := by
  have hB5 := (Blk.new w 51 #[.string ta, .string tb]).alloc (.cells #[.bool wa, .bool wb] 52)
  have hB6 := Blk.new (w.alloc (.cells #[.string ta, .string tb] 51)) 52 #[.bool wa, .bool wb]
  rw [World.size_alloc] at hB6
  have hE0 := ((Ext.refl w).alloc (.cells #[.string ta, .string tb] 51)).alloc (.cells #[.bool wa, .bool wb] 52)
  have HLg := Lib.hid (fun w' (h : Ext w w') => large_one As ns cs st w' (hfs.ext h) hbs)
  have Hno := Lib.hid (show decide (4000 < tot15 [((As, ns, cs), st)]) = false → ns ≤ 2000 ∧ Bsz 4000 st from fun h => by
    have h1 := of_decide_eq_false h
    rw [tot15_one] at h1
    have h2 := hfs.lenF
    exact ⟨by omega, (bsz_of_sumF15 st).mono (by omega)⟩)
  have HB5 := Lib.hid hB5; have HB6 := Lib.hid hB6; have HE0 := Lib.hid hE0
  clear hB5 hB6 hE0 hbs
  go_enter Tryd.func8, Tryd.ntmps8
  go_wp2_with fail
  refine (HLg.out _ HE0.out (w.heap.size + 1 + 1) (by rw [World.size_alloc, World.size_alloc])).mono ?_; rintro e w1 ⟨rfl, hb1⟩
  generalize decide (4000 < tot15 [((As, ns, cs), st)]) = lg at *
  generalize (w.alloc (.cells #[.string ta, .string tb] 51)).alloc (.cells #[.bool wa, .bool wb] 52) = W0 at *
  have HT1 := Lib.hid (HB5.out.ext hb1); have HW1 := Lib.hid (HB6.out.ext hb1)
  have hw1 := HE0.out.trans hb1
  generalize hbs : w.heap.size = b at *
  clear hbs
  have t0 : w1.cell? ⟨b, 0, none⟩ = some (.string ta) := HT1.out.cell 0
  have t1 : w1.cell? ⟨b, 1, none⟩ = some (.string tb) := HT1.out.cell 1
  cases lg
  rotate_left
  · go_wp2_with fail
    refine (HLg.out _ hw1 _ rfl).mono ?_; rintro e w2 ⟨rfl, hb2⟩
    go_wp2_with fail
    go_ret
    exact ⟨rfl, hw1.trans hb2⟩
  by_cases h100 : 100 < ta.size + tb.size
  · go_wp2_with fail
    refine (HLg.out _ hw1 _ rfl).mono ?_; rintro e w2 ⟨rfl, hb2⟩
    replace t0 := hb2.cell t0
    replace t1 := hb2.cell t1
    go_wp2_with fail
    go_ret
    exact ⟨ret_b (by (try simp); (try omega)), hw1.trans hb2⟩
  obtain ⟨hns, hzs⟩ := Hno.out rfl
  have HZ := Lib.hid (show Bsz 1048576 st from hzs.mono (by decide))
  clear Hno HLg hzs
  go_wp2_with fail
  refine (law15_awake _ (hg.ext hw1) (hgl.ext hw1)).mono ?_; rintro e w2 ⟨rfl, hb2⟩
  have HE2 := Lib.hid (hw1.trans hb2)
  have HT2 := Lib.hid (HT1.out.ext hb2); have HW2 := Lib.hid (HW1.out.ext hb2)
  clear HB5 HB6 HE0 hb1 hb2 hw1 t0 t1 HT1 HW1
  have HRm := Lib.hid (ref_Remove As ns cs st etN w2 (hfs.ext HE2.out) (by omega) (by decide) (HZ.out.mono (by decide)))
  go_wp2_with fail
  refine HRm.out.mono ?_; rintro e w3 ⟨A3, n3, c3, rfl, hf3, hk3, hb3, hown3⟩
  clear hown3 HRm
  have hn3 : n3 ≤ 2000 := Nat.le_trans (rem_len15' hfs hf3) hns
  have HZ3 := Lib.hid (rem_sz15' (nm := etN) HZ.out)
  have Hh0 := Lib.hid (has_rem st etN)
  generalize remS st etN = FR at *
  have HFl := Lib.hid (law_Fields A3 n3 c3 FR w3 hf3 (by omega))
  go_wp2_with fail
  refine HFl.out.mono ?_; rintro e w4 ⟨A4, c4, rfl, hf4, hk4, hb4, hown4⟩
  clear hown4 HFl hf3
  have HE4 := Lib.hid (HE2.out.trans (hb3.trans hb4))
  have HT4 := Lib.hid (HT2.out.ext (hb3.trans hb4)); have HW4 := Lib.hid (HW2.out.ext (hb3.trans hb4))
  have HF4 := Lib.hid hf4
  clear hf4 hb3 hb4 HE2 HT2 HW2
  have g0 : w4.cell? ⟨b, 0, none⟩ = some (.string ta) := HT4.out.cell 0
  have g1 : w4.cell? ⟨b, 1, none⟩ = some (.string tb) := HT4.out.cell 1
  have hV := Blk.new w4 51 #[.string ⟨#[]⟩, .string ⟨#[]⟩]
  have HV := Lib.hid hV; clear hV
  have HE5 := Lib.hid ((Ext.refl w4).alloc (.cells #[.string ⟨#[]⟩, .string ⟨#[]⟩] 51))
  have j0 : (w4.alloc (.cells #[.string ⟨#[]⟩, .string ⟨#[]⟩] 51)).cell? ⟨b, 0, none⟩ = some (.string ta) := HE5.out.cell g0
  have j1 : (w4.alloc (.cells #[.string ⟨#[]⟩, .string ⟨#[]⟩] 51)).cell? ⟨b, 1, none⟩ = some (.string tb) := HE5.out.cell g1
  go_wp2_with fail
  generalize w4.alloc (.cells #[.string ⟨#[]⟩, .string ⟨#[]⟩] 51) = W5 at *
  clear j0 j1
  have Hlt := Lib.hid (show b < w4.heap.size ∧ b + 1 < w4.heap.size from ⟨HT4.out.lt, HW4.out.lt⟩)
  have hlv := HV.out.lt
  generalize hbv : w4.heap.size = bv at *
  have Hbv := Lib.hid (Nat.le_of_eq hbv)
  clear hbv
  go_loopw [50] (fun i wr => ∃ k, k ≤ 2 ∧ i = .int .i64 (k : Nat) ∧ Ext w4 wr ∧ (0 < k → rightS ta = true) ∧ (1 < k → rightS tb = true) ∧ Blk wr bv 51 #[.string (if 0 < k then wrS wa ta else ⟨#[]⟩), .string (if 1 < k then wrS wb tb else ⟨#[]⟩)]) (fun i _ => 2 - (intOf i).toNat)
  case atStart => exact ⟨0, Nat.zero_le _, rfl, HE5.out, fun h => by omega, fun h => by omega, HV.out⟩
  case round =>
    obtain ⟨k, hk, rfl, hbr, hra, hrb, hbk⟩ := hrel
    have Hra := Lib.hid hra; have Hrb := Lib.hid hrb; have Hbk := Lib.hid hbk
    clear hra hrb hbk
    have hw0 : wr.cell? ⟨b + 1, 0, none⟩ = some (.bool wa) := (HW4.out.ext hbr).cell 0
    have hw1 : wr.cell? ⟨b + 1, 1, none⟩ = some (.bool wb) := (HW4.out.ext hbr).cell 1
    rcases Nat.lt_or_ge k 2 with hlt | hge
    · rcases Nat.lt_or_ge k 1 with hlt1 | hge1
      · obtain rfl : k = 0 := by omega
        have hbk : Blk wr bv 51 #[.string ⟨#[]⟩, .string ⟨#[]⟩] := Hbk.out
        have HBK := Lib.hid hbk
        have u0 : wr.cell? ⟨bv, 0, none⟩ = some (.string ⟨#[]⟩) := hbk.cell 0
        have u1 : wr.frozen? ⟨bv, 0, none⟩ = false := hbk.frozen 0
        clear hbk Hbk hk hlt
        have hix : ∀ w, (Instr.index 51 (.agg #[.string ta, .string tb]) (.int .i64 0)).run Tryd.prog w = .ok (.string ta) w := fun w => idx51_0 ta tb w
        go_wp2_with fail
        obtain ⟨wq, hwq⟩ : ∃ wq : World, wq = wr := ⟨_, rfl⟩
        clear hwq wq
        go_loop [56] (fun i => ∃ j, j ≤ ta.size ∧ i = .int .i64 (j : Nat) ∧ (ta.data.toList.take j).any badT = false) (fun i => ta.size - (intOf i).toNat)
        case atStart => exact ⟨0, Nat.zero_le _, rfl, rfl⟩
        case round =>
          obtain ⟨j, hj, rfl, hall⟩ := hrel
          by_cases hjt : j < ta.size
          · have Hst := Lib.hid (any_step badT hjt hall); clear hall
            have Hcy := Lib.hid (@badT_any ta[j])
            have Hcn := Lib.hid (@badT_none ta[j])
            by_cases hc1 : (ta[j].toNat : Int) ≤ 32
            · skip
              clear Hst Hcy Hcn
              go_wp2_with fail
              go_ret; exact ⟨rfl, HE4.out.trans hbr⟩
            cases hc2 : ((ta[j].toNat : Int) == 34)
            rotate_left
            · skip
              have hceq : (ta[j].toNat : Int) = 34 := by simpa using hc2
              clear Hst Hcy Hcn
              go_wp2_with fail
              go_ret; exact ⟨rfl, HE4.out.trans hbr⟩
            cases hc3 : ((ta[j].toNat : Int) == 127)
            rotate_left
            · skip
              have hceq : (ta[j].toNat : Int) = 127 := by simpa using hc3
              clear Hst Hcy Hcn
              go_wp2_with fail
              go_ret; exact ⟨rfl, HE4.out.trans hbr⟩
            have Hs2 := Lib.hid (Hst.out (Hcn.out (by simp only [beq_eq_false_iff_ne, ne_eq] at hc2 hc3; omega)))
            clear Hst Hcy Hcn
            go_wp2_with fail
            go_round
            case rel => exact ⟨j + 1, by omega, by go_num, Hs2.out⟩
            case measure => simp [intOf]; omega
          · obtain rfl : j = ta.size := by omega
            have Hr := Lib.hid (show rightS ta = true by unfold rightS; rw [← any_end badT hall]; rfl)
            clear hall hjt hj
            have h1 : ∀ w, (Op.stringOp .add qS ta).run Tryd.prog w = .ok (.string (qS ++ ta)) w := fun w => run_string_add_sum w _ _ (by rw [show qS.size = 1 from rfl]; omega)
            have h2 : ∀ w, (Op.stringOp .add (qS ++ ta) qS).run Tryd.prog w = .ok (.string (qS ++ ta ++ qS)) w := fun w => run_string_add_sum w _ _ (by rw [ByteArray.size_append, show qS.size = 1 from rfl]; omega)
            have h3 : ∀ w, (Op.stringOp .add ⟨#[87, 47]⟩ (qS ++ ta ++ qS)).run Tryd.prog w = .ok (.string (⟨#[87, 47]⟩ ++ (qS ++ ta ++ qS))) w := fun w => run_string_add_sum w _ _ (by rw [ByteArray.size_append, ByteArray.size_append, show qS.size = 1 from rfl, show (⟨#[87, 47]⟩ : ByteArray).size = 2 from rfl]; omega)
            have hYa := HBK.out.set_ 0 (.string (qS ++ ta ++ qS))
            have HYa := Lib.hid hYa
            have y0 : (wr.setCell ⟨bv, 0, none⟩ (.string (qS ++ ta ++ qS))).cell? ⟨bv, 0, none⟩ = some (.string (qS ++ ta ++ qS)) := hYa.cell 0
            have y1 : (wr.setCell ⟨bv, 0, none⟩ (.string (qS ++ ta ++ qS))).frozen? ⟨bv, 0, none⟩ = false := hYa.frozen 0
            have y2 : (wr.setCell ⟨bv, 0, none⟩ (.string (qS ++ ta ++ qS))).cell? ⟨b + 1, 0, none⟩ = some (.bool wa) := ((HW4.out.ext hbr).far (p := ⟨bv, 0, none⟩) (by have := Hlt.out.2; have := Hbv.out; simp; omega) (.string (qS ++ ta ++ qS))).cell 0
            have HEa := Lib.hid (Ext.setCell hbr (p := ⟨bv, 0, none⟩) Hbv.out (.string (qS ++ ta ++ qS)))
            clear hYa
            unfold qS at h1 h2 h3 y0 y1 y2 HYa HEa
            cases wa
            · skip
              go_wp2_with fail
              go_roundw
              case rel => exact ⟨0 + 1, by omega, by first | rfl | go_num, HEa.out, fun _ => Hr.out, fun h => by omega, by have hB := HYa.out; have hq := wr_plain ta; unfold qS at hq; (try rw [hq] at hB); exact hB⟩
              case measure => simp [intOf]
            · skip
              go_wp2_with fail
              go_roundw
              case rel => exact ⟨0 + 1, by omega, by first | rfl | go_num, (Ext.setCell HEa.out (p := ⟨bv, 0, none⟩) Hbv.out _), fun _ => Hr.out, fun h => by omega, by have hB := HYa.out.set_ 0 (.string (⟨#[87, 47]⟩ ++ (⟨#[34]⟩ ++ ta ++ ⟨#[34]⟩))); have hq := wr_weak ta; unfold qS at hq; (try rw [hq] at hB); exact hB⟩
              case measure => simp [intOf]
      · obtain rfl : k = 1 := by omega
        have hbk : Blk wr bv 51 #[.string (wrS wa ta), .string ⟨#[]⟩] := Hbk.out
        have HBK := Lib.hid hbk
        have u0 : wr.cell? ⟨bv, 1, none⟩ = some (.string ⟨#[]⟩) := hbk.cell 1
        have u1 : wr.frozen? ⟨bv, 1, none⟩ = false := hbk.frozen 1
        clear hbk Hbk hk hlt
        have hix : ∀ w, (Instr.index 51 (.agg #[.string ta, .string tb]) (.int .i64 1)).run Tryd.prog w = .ok (.string tb) w := fun w => idx51_1 ta tb w
        go_wp2_with fail
        obtain ⟨wq, hwq⟩ : ∃ wq : World, wq = wr := ⟨_, rfl⟩
        clear hwq wq
        go_loop [56] (fun i => ∃ j, j ≤ tb.size ∧ i = .int .i64 (j : Nat) ∧ (tb.data.toList.take j).any badT = false) (fun i => tb.size - (intOf i).toNat)
        case atStart => exact ⟨0, Nat.zero_le _, rfl, rfl⟩
        case round =>
          obtain ⟨j, hj, rfl, hall⟩ := hrel
          by_cases hjt : j < tb.size
          · have Hst := Lib.hid (any_step badT hjt hall); clear hall
            have Hcy := Lib.hid (@badT_any tb[j])
            have Hcn := Lib.hid (@badT_none tb[j])
            by_cases hc1 : (tb[j].toNat : Int) ≤ 32
            · skip
              clear Hst Hcy Hcn
              go_wp2_with fail
              go_ret; exact ⟨rfl, HE4.out.trans hbr⟩
            cases hc2 : ((tb[j].toNat : Int) == 34)
            rotate_left
            · skip
              have hceq : (tb[j].toNat : Int) = 34 := by simpa using hc2
              clear Hst Hcy Hcn
              go_wp2_with fail
              go_ret; exact ⟨rfl, HE4.out.trans hbr⟩
            cases hc3 : ((tb[j].toNat : Int) == 127)
            rotate_left
            · skip
              have hceq : (tb[j].toNat : Int) = 127 := by simpa using hc3
              clear Hst Hcy Hcn
              go_wp2_with fail
              go_ret; exact ⟨rfl, HE4.out.trans hbr⟩
            have Hs2 := Lib.hid (Hst.out (Hcn.out (by simp only [beq_eq_false_iff_ne, ne_eq] at hc2 hc3; omega)))
            clear Hst Hcy Hcn
            go_wp2_with fail
            go_round
            case rel => exact ⟨j + 1, by omega, by go_num, Hs2.out⟩
            case measure => simp [intOf]; omega
          · obtain rfl : j = tb.size := by omega
            have Hr := Lib.hid (show rightS tb = true by unfold rightS; rw [← any_end badT hall]; rfl)
            clear hall hjt hj
            have h1 : ∀ w, (Op.stringOp .add qS tb).run Tryd.prog w = .ok (.string (qS ++ tb)) w := fun w => run_string_add_sum w _ _ (by rw [show qS.size = 1 from rfl]; omega)
            have h2 : ∀ w, (Op.stringOp .add (qS ++ tb) qS).run Tryd.prog w = .ok (.string (qS ++ tb ++ qS)) w := fun w => run_string_add_sum w _ _ (by rw [ByteArray.size_append, show qS.size = 1 from rfl]; omega)
            have h3 : ∀ w, (Op.stringOp .add ⟨#[87, 47]⟩ (qS ++ tb ++ qS)).run Tryd.prog w = .ok (.string (⟨#[87, 47]⟩ ++ (qS ++ tb ++ qS))) w := fun w => run_string_add_sum w _ _ (by rw [ByteArray.size_append, ByteArray.size_append, show qS.size = 1 from rfl, show (⟨#[87, 47]⟩ : ByteArray).size = 2 from rfl]; omega)
            have hYa := HBK.out.set_ 1 (.string (qS ++ tb ++ qS))
            have HYa := Lib.hid hYa
            have y0 : (wr.setCell ⟨bv, 1, none⟩ (.string (qS ++ tb ++ qS))).cell? ⟨bv, 1, none⟩ = some (.string (qS ++ tb ++ qS)) := hYa.cell 1
            have y1 : (wr.setCell ⟨bv, 1, none⟩ (.string (qS ++ tb ++ qS))).frozen? ⟨bv, 1, none⟩ = false := hYa.frozen 1
            have y2 : (wr.setCell ⟨bv, 1, none⟩ (.string (qS ++ tb ++ qS))).cell? ⟨b + 1, 1, none⟩ = some (.bool wb) := ((HW4.out.ext hbr).far (p := ⟨bv, 1, none⟩) (by have := Hlt.out.2; have := Hbv.out; simp; omega) (.string (qS ++ tb ++ qS))).cell 1
            have HEa := Lib.hid (Ext.setCell hbr (p := ⟨bv, 1, none⟩) Hbv.out (.string (qS ++ tb ++ qS)))
            clear hYa
            unfold qS at h1 h2 h3 y0 y1 y2 HYa HEa
            cases wb
            · skip
              go_wp2_with fail
              go_roundw
              case rel => exact ⟨1 + 1, by omega, by first | rfl | go_num, HEa.out, fun _ => Hra.out (by decide), fun _ => Hr.out, by have hB := HYa.out; have hq := wr_plain tb; unfold qS at hq; (try rw [hq] at hB); exact hB⟩
              case measure => simp [intOf]
            · skip
              go_wp2_with fail
              go_roundw
              case rel => exact ⟨1 + 1, by omega, by first | rfl | go_num, (Ext.setCell HEa.out (p := ⟨bv, 1, none⟩) Hbv.out _), fun _ => Hra.out (by decide), fun _ => Hr.out, by have hB := HYa.out.set_ 1 (.string (⟨#[87, 47]⟩ ++ (⟨#[34]⟩ ++ tb ++ ⟨#[34]⟩))); have hq := wr_weak tb; unfold qS at hq; (try rw [hq] at hB); exact hB⟩
              case measure => simp [intOf]
    · obtain rfl : k = 2 := by omega
      have hbk : Blk wr bv 51 #[.string (wrS wa ta), .string (wrS wb tb)] := Hbk.out
      have H0 := Lib.hid (wr_tag (wk := wa) (Hra.out (by decide)))
      have H1 := Lib.hid (wr_tag (wk := wb) (Hrb.out (by decide)))
      have z0 := wr_sz wa ta; have z1 := wr_sz wb tb
      have HBK := Lib.hid hbk
      clear hbk Hbk hk hge Hra Hrb hw0 hw1
      generalize wrS wa ta = v0 at *
      generalize wrS wb tb = v1 at *
      have HMn := Lib.hid (upd_eq (mix_none (fs := FR) v1 Hh0.out))
      have HMo := Lib.hid (mix_one (fs := FR) Hh0.out H0.out H1.out)
      have HZ1 := Lib.hid (show Bsz 6000 [(etN, v1)] from fun f hf => by rw [List.mem_singleton] at hf; subst hf; exact ⟨show etN.size ≤ 6000 by decide, show v1.size ≤ 6000 by omega⟩)
      have HZ0 := Lib.hid (bsz_add (a := etN) (b := v0) HZ3.out (by decide) (by omega))
      have HC := Lib.hid (show ∀ w', Ext wr w' → (w'.cell? ⟨bv, 0, none⟩ = some (.string v0) ∧ w'.cell? ⟨bv, 1, none⟩ = some (.string v1)) from fun w' h => ⟨(HBK.out.ext h).cell 0, (HBK.out.ext h).cell 1⟩)
      skip
      have q0 : wr.cell? ⟨b, 0, none⟩ = some (.string ta) := hbr.cell g0
      have q1 : wr.cell? ⟨b, 1, none⟩ = some (.string tb) := hbr.cell g1
      by_cases hab : ta = tb
      · skip
        have HU := Lib.hid (upd_eq (HMo.out.trans (by rw [decide_eq_true hab]; rfl)))
        have hz : (ta.toList == tb.toList) = true := by rw [hab]; simp
        clear hab HMo H0 H1
        go_wp2_with fail
        have hE := (Ext.refl wr).drew
        refine wp_region_held_drew (S := (fun w' => w'.cell? ⟨bv, 0, none⟩ = some (.string v0) ∧ w'.cell? ⟨bv, 1, none⟩ = some (.string v1))) (by kernel_rfl) ?_ (fun hHeld => ?_)
        · (try dsimp only); exact HC.out _ hE
        refine wpAnyH_take (i := 0) (oi := { dst := some 92, op := _, type := _, pos := _, after := _, guard := _ }) (v := ?_) rfl (by kernel_rfl) (by kernel_rfl) (by kernel_rfl) (fun _ _ _ h => h) (Or.inl ⟨by rfl, ?_⟩) (by assumption) ?_
        rotate_left
        · (intro w hSw; (try dsimp only at hSw); go_simp; (try with_reducible rfl))
        (try simp only [Act.put, List.setIfInBounds_toArray, List.set_cons_zero, List.set_cons_succ])
        refine wpAnyH_take (i := 1) (oi := { dst := some 93, op := _, type := _, pos := _, after := _, guard := _ }) (v := ?_) rfl (by kernel_rfl) (by kernel_rfl) (by kernel_rfl) (fun _ _ _ h => h) (Or.inl ⟨by rfl, ?_⟩) (by assumption) ?_
        rotate_left
        · (intro w hSw; (try dsimp only at hSw); go_simp; (try with_reducible rfl))
        (try simp only [Act.put, List.setIfInBounds_toArray, List.set_cons_zero, List.set_cons_succ])
        refine wpAnyH_take (i := 2) (oi := { dst := some 94, op := _, type := _, pos := _, after := _, guard := _ }) (v := ?_) rfl (by kernel_rfl) (by kernel_rfl) (by kernel_rfl) (fun _ _ _ h => h) (Or.inl ⟨by rfl, ?_⟩) (by assumption) ?_
        rotate_left
        · (intro w hSw; (try dsimp only at hSw); go_simp; (try with_reducible rfl))
        (try simp only [Act.put, List.setIfInBounds_toArray, List.set_cons_zero, List.set_cons_succ])
        refine wpAnyH_take (i := 4) (oi := { dst := some 96, op := _, type := _, pos := _, after := _, guard := _ }) (v := ?_) rfl (by kernel_rfl) (by kernel_rfl) (by kernel_rfl) (fun _ _ _ h => h) (Or.inl ⟨by rfl, ?_⟩) (by assumption) ?_
        rotate_left
        · (intro w hSw; (try dsimp only at hSw); go_simp; (try with_reducible rfl))
        (try simp only [Act.put, List.setIfInBounds_toArray, List.set_cons_zero, List.set_cons_succ])
        refine wpAnyH_take (i := 5) (oi := { dst := some 97, op := _, type := _, pos := _, after := _, guard := _ }) (v := ?_) rfl (by kernel_rfl) (by kernel_rfl) (by kernel_rfl) (fun _ _ _ h => h) (Or.inl ⟨by rfl, ?_⟩) (by assumption) ?_
        rotate_left
        · (intro w hSw; (try dsimp only at hSw); go_simp; (try with_reducible rfl))
        (try simp only [Act.put, List.setIfInBounds_toArray, List.set_cons_zero, List.set_cons_succ])
        refine wpAnyH_take (i := 6) (oi := { dst := some 98, op := _, type := _, pos := _, after := _, guard := _ }) (v := ?_) rfl (by kernel_rfl) (by kernel_rfl) (by kernel_rfl) (fun _ _ _ h => h) (Or.inl ⟨by rfl, ?_⟩) (by assumption) ?_
        rotate_left
        · (intro w hSw; (try dsimp only at hSw); go_simp; (try with_reducible rfl))
        (try simp only [Act.put, List.setIfInBounds_toArray, List.set_cons_zero, List.set_cons_succ])
        refine wpAnyH_ready (rs := [3, 7]) (by kernel_rfl) (by simp) ?_
        refine AllReadyH.cons (o := { dst := some 95, op := _, type := _, pos := _, after := _, guard := _ }) rfl (fun K hK => ?_) (AllReadyH.cons (o := { dst := some 99, op := _, type := _, pos := _, after := _, guard := _ }) rfl (fun K hK => ?_) AllReadyH.nil)
        · go_simp
          refine (field_Add A4 n3 c4 FR etN v0 _ (HF4.out.ext (hbr.trans hE)) (by omega) (by decide)).mono ?_; rintro e w7 ⟨A7, c7, rfl, hf7, hk7, hb7, hown7⟩; clear hown7; rw [d_et] at hf7; replace hE := hE.trans hb7; clear hb7
          try go_wp2_with fail
          refine hK.out _ _ ?_ (fun hHeld => ?_)
          · (try dsimp only); exact HC.out _ hE
          clear hK K
          (try simp only [Act.put, List.setIfInBounds_toArray, List.set_cons_zero, List.set_cons_succ])
          refine wpAnyH_ready (rs := [7]) (by kernel_rfl) (by simp) ?_
          refine AllReadyH.cons (o := { dst := some 99, op := _, type := _, pos := _, after := _, guard := _ }) rfl (fun K hK => ?_) AllReadyH.nil
          have hr8 : RdF _ _ 1 [(etN, v1)] := rd_one15 (e := 54) (a := ⟨#[101, 116, 97, 103]⟩) (b := v1) hE; replace hf7 := hf7.alloc (.cells #[.string ⟨#[101, 116, 97, 103]⟩, .string v1] 54); replace hE := hE.alloc (.cells #[.string ⟨#[101, 116, 97, 103]⟩, .string v1] 54)
          go_simp
          skip
          try go_wp2_with fail
          refine hK.out _ _ ?_ (fun hHeld => ?_)
          · (try dsimp only); exact HC.out _ hE
          clear hK K
          (try simp only [Act.put, List.setIfInBounds_toArray, List.set_cons_zero, List.set_cons_succ])
          refine wpAnyH_ready (rs := [8]) (by kernel_rfl) (by simp) ?_
          refine AllReadyH.cons (o := { dst := some 100, op := _, type := _, pos := _, after := _, guard := _ }) rfl (fun K hK => ?_) AllReadyH.nil
          go_simp
          refine (sto_Update A7 (n3 + 1) c7 (FR ++ [(etN, v0)]) _ 1 1 [(etN, v1)] _ hf7 hr8 (by omega) (by decide) HZ0.out HZ1.out).mono ?_; rintro e w9 ⟨hup, hb9⟩; rw [HU.out] at hup; obtain ⟨A9, n9, c9, rfl, hf9, hc9⟩ := hup; clear hf9; replace hE := hE.trans hb9; clear hb9
          try go_wp2_with fail
          refine hK.out _ _ ?_ (fun hHeld => ?_)
          · (try dsimp only); exact HC.out _ hE
          clear hK K
          (try simp only [Act.put, List.setIfInBounds_toArray, List.set_cons_zero, List.set_cons_succ])
          refine wpAnyH_take (i := 9) (oi := { dst := some 91, op := _, type := _, pos := _, after := _, guard := _ }) (v := ?_) rfl (by kernel_rfl) (by kernel_rfl) (by kernel_rfl) (fun _ _ _ h => h) (Or.inl ⟨by rfl, ?_⟩) (by assumption) ?_
          rotate_left
          · (intro w hSw; (try dsimp only at hSw); go_simp; (try with_reducible rfl))
          (try simp only [Act.put, List.setIfInBounds_toArray, List.set_cons_zero, List.set_cons_succ])
          refine wpAnyH_take (i := 10) (oi := { dst := some 101, op := _, type := _, pos := _, after := _, guard := _ }) (v := ?_) rfl (by kernel_rfl) (by kernel_rfl) (by kernel_rfl) (fun _ _ _ h => h) (Or.inl ⟨by rfl, ?_⟩) (by assumption) ?_
          rotate_left
          · (intro w hSw; (try dsimp only at hSw); go_simp; (try with_reducible rfl))
          (try simp only [Act.put, List.setIfInBounds_toArray, List.set_cons_zero, List.set_cons_succ])
          refine wpAnyH_take (i := 11) (oi := { dst := some 102, op := _, type := _, pos := _, after := _, guard := _ }) (v := ?_) rfl (by kernel_rfl) (by kernel_rfl) (by kernel_rfl) (fun _ _ _ h => h) (Or.inl ⟨by rfl, ?_⟩) (by assumption) ?_
          rotate_left
          · (intro w hSw; (try dsimp only at hSw); go_simp; (try with_reducible rfl))
          (try simp only [Act.put, List.setIfInBounds_toArray, List.set_cons_zero, List.set_cons_succ])
          refine wpAnyH_take (i := 12) (oi := { dst := some 12, op := _, type := _, pos := _, after := _, guard := _ }) (v := ?_) rfl (by kernel_rfl) (by kernel_rfl) (by kernel_rfl) (fun _ _ _ h => h) (Or.inl ⟨by rfl, ?_⟩) (by assumption) ?_
          rotate_left
          · (intro w hSw; (try dsimp only at hSw); go_simp; (try with_reducible rfl))
          (try simp only [Act.put, List.setIfInBounds_toArray, List.set_cons_zero, List.set_cons_succ])
          refine wpAnyH_take (i := 13) (oi := { dst := some 13, op := _, type := _, pos := _, after := _, guard := _ }) (v := ?_) rfl (by kernel_rfl) (by kernel_rfl) (by kernel_rfl) (fun _ _ _ h => h) (Or.inl ⟨by rfl, ?_⟩) (by assumption) ?_
          rotate_left
          · (intro w hSw; (try dsimp only at hSw); go_simp; (try with_reducible rfl))
          (try simp only [Act.put, List.setIfInBounds_toArray, List.set_cons_zero, List.set_cons_succ])
          refine wpAnyH_done (by kernel_rfl) ?_ _
          have hr9 : RdF (w9.alloc (.cells #[.string ⟨#[101, 116, 97, 103]⟩, .string v1] 54)) (some ⟨w9.heap.size, 0, none⟩) 1 [(etN, v1)] := rd_one15 (e := 54) (a := ⟨#[101, 116, 97, 103]⟩) (b := v1) hE
          have hE9 := hE.alloc (.cells #[.string ⟨#[101, 116, 97, 103]⟩, .string v1] 54)
          have y0 := hE.cell q0; have y1 := hE.cell q1
          have x1 : w9.cell? ⟨bv, 1, none⟩ = some (.string v1) := (HC.out _ hE).2
          have HU2 := Lib.hid (sto_Update A4 n3 c4 FR _ 1 1 [(etN, v1)] _ (HF4.out.ext (hbr.trans hE9)) hr9 (by omega) (by decide) HZ3.out HZ1.out)
          rw [HMn.out] at HU2
          clear hr9
          go_wp2_with fail
          refine HU2.out.mono ?_; rintro e w10 ⟨⟨A10, n10, c10, rfl, hf10, hc10⟩, hb10⟩
          clear hf10
          replace y0 := (hb10.cell (((Ext.refl w9).alloc (.cells #[.string ⟨#[101, 116, 97, 103]⟩, .string v1] 54)).cell y0)); replace y1 := (hb10.cell (((Ext.refl w9).alloc (.cells #[.string ⟨#[101, 116, 97, 103]⟩, .string v1] 54)).cell y1))
          go_wp2_with fail
          go_ret
          exact ⟨rfl, HE4.out.trans (hbr.trans (hE9.trans hb10))⟩
        · have hr8 : RdF _ _ 1 [(etN, v1)] := rd_one15 (e := 54) (a := ⟨#[101, 116, 97, 103]⟩) (b := v1) hE; replace hE := hE.alloc (.cells #[.string ⟨#[101, 116, 97, 103]⟩, .string v1] 54)
          go_simp
          skip
          try go_wp2_with fail
          refine hK.out _ _ ?_ (fun hHeld => ?_)
          · (try dsimp only); exact HC.out _ hE
          clear hK K
          (try simp only [Act.put, List.setIfInBounds_toArray, List.set_cons_zero, List.set_cons_succ])
          refine wpAnyH_ready (rs := [3]) (by kernel_rfl) (by simp) ?_
          refine AllReadyH.cons (o := { dst := some 95, op := _, type := _, pos := _, after := _, guard := _ }) rfl (fun K hK => ?_) AllReadyH.nil
          go_simp
          refine (field_Add A4 n3 c4 FR etN v0 _ (HF4.out.ext (hbr.trans hE)) (by omega) (by decide)).mono ?_; rintro e w7 ⟨A7, c7, rfl, hf7, hk7, hb7, hown7⟩; clear hown7; rw [d_et] at hf7; replace hr8 := hr8.ext hb7; replace hE := hE.trans hb7; clear hb7
          try go_wp2_with fail
          refine hK.out _ _ ?_ (fun hHeld => ?_)
          · (try dsimp only); exact HC.out _ hE
          clear hK K
          (try simp only [Act.put, List.setIfInBounds_toArray, List.set_cons_zero, List.set_cons_succ])
          refine wpAnyH_ready (rs := [8]) (by kernel_rfl) (by simp) ?_
          refine AllReadyH.cons (o := { dst := some 100, op := _, type := _, pos := _, after := _, guard := _ }) rfl (fun K hK => ?_) AllReadyH.nil
          go_simp
          refine (sto_Update A7 (n3 + 1) c7 (FR ++ [(etN, v0)]) _ 1 1 [(etN, v1)] _ hf7 hr8 (by omega) (by decide) HZ0.out HZ1.out).mono ?_; rintro e w9 ⟨hup, hb9⟩; rw [HU.out] at hup; obtain ⟨A9, n9, c9, rfl, hf9, hc9⟩ := hup; clear hf9; replace hE := hE.trans hb9; clear hb9
          try go_wp2_with fail
          refine hK.out _ _ ?_ (fun hHeld => ?_)
          · (try dsimp only); exact HC.out _ hE
          clear hK K
          (try simp only [Act.put, List.setIfInBounds_toArray, List.set_cons_zero, List.set_cons_succ])
          refine wpAnyH_take (i := 9) (oi := { dst := some 91, op := _, type := _, pos := _, after := _, guard := _ }) (v := ?_) rfl (by kernel_rfl) (by kernel_rfl) (by kernel_rfl) (fun _ _ _ h => h) (Or.inl ⟨by rfl, ?_⟩) (by assumption) ?_
          rotate_left
          · (intro w hSw; (try dsimp only at hSw); go_simp; (try with_reducible rfl))
          (try simp only [Act.put, List.setIfInBounds_toArray, List.set_cons_zero, List.set_cons_succ])
          refine wpAnyH_take (i := 10) (oi := { dst := some 101, op := _, type := _, pos := _, after := _, guard := _ }) (v := ?_) rfl (by kernel_rfl) (by kernel_rfl) (by kernel_rfl) (fun _ _ _ h => h) (Or.inl ⟨by rfl, ?_⟩) (by assumption) ?_
          rotate_left
          · (intro w hSw; (try dsimp only at hSw); go_simp; (try with_reducible rfl))
          (try simp only [Act.put, List.setIfInBounds_toArray, List.set_cons_zero, List.set_cons_succ])
          refine wpAnyH_take (i := 11) (oi := { dst := some 102, op := _, type := _, pos := _, after := _, guard := _ }) (v := ?_) rfl (by kernel_rfl) (by kernel_rfl) (by kernel_rfl) (fun _ _ _ h => h) (Or.inl ⟨by rfl, ?_⟩) (by assumption) ?_
          rotate_left
          · (intro w hSw; (try dsimp only at hSw); go_simp; (try with_reducible rfl))
          (try simp only [Act.put, List.setIfInBounds_toArray, List.set_cons_zero, List.set_cons_succ])
          refine wpAnyH_take (i := 12) (oi := { dst := some 12, op := _, type := _, pos := _, after := _, guard := _ }) (v := ?_) rfl (by kernel_rfl) (by kernel_rfl) (by kernel_rfl) (fun _ _ _ h => h) (Or.inl ⟨by rfl, ?_⟩) (by assumption) ?_
          rotate_left
          · (intro w hSw; (try dsimp only at hSw); go_simp; (try with_reducible rfl))
          (try simp only [Act.put, List.setIfInBounds_toArray, List.set_cons_zero, List.set_cons_succ])
          refine wpAnyH_take (i := 13) (oi := { dst := some 13, op := _, type := _, pos := _, after := _, guard := _ }) (v := ?_) rfl (by kernel_rfl) (by kernel_rfl) (by kernel_rfl) (fun _ _ _ h => h) (Or.inl ⟨by rfl, ?_⟩) (by assumption) ?_
          rotate_left
          · (intro w hSw; (try dsimp only at hSw); go_simp; (try with_reducible rfl))
          (try simp only [Act.put, List.setIfInBounds_toArray, List.set_cons_zero, List.set_cons_succ])
          refine wpAnyH_done (by kernel_rfl) ?_ _
          have hr9 : RdF (w9.alloc (.cells #[.string ⟨#[101, 116, 97, 103]⟩, .string v1] 54)) (some ⟨w9.heap.size, 0, none⟩) 1 [(etN, v1)] := rd_one15 (e := 54) (a := ⟨#[101, 116, 97, 103]⟩) (b := v1) hE
          have hE9 := hE.alloc (.cells #[.string ⟨#[101, 116, 97, 103]⟩, .string v1] 54)
          have y0 := hE.cell q0; have y1 := hE.cell q1
          have x1 : w9.cell? ⟨bv, 1, none⟩ = some (.string v1) := (HC.out _ hE).2
          have HU2 := Lib.hid (sto_Update A4 n3 c4 FR _ 1 1 [(etN, v1)] _ (HF4.out.ext (hbr.trans hE9)) hr9 (by omega) (by decide) HZ3.out HZ1.out)
          rw [HMn.out] at HU2
          clear hr9
          go_wp2_with fail
          refine HU2.out.mono ?_; rintro e w10 ⟨⟨A10, n10, c10, rfl, hf10, hc10⟩, hb10⟩
          clear hf10
          replace y0 := (hb10.cell (((Ext.refl w9).alloc (.cells #[.string ⟨#[101, 116, 97, 103]⟩, .string v1] 54)).cell y0)); replace y1 := (hb10.cell (((Ext.refl w9).alloc (.cells #[.string ⟨#[101, 116, 97, 103]⟩, .string v1] 54)).cell y1))
          go_wp2_with fail
          go_ret
          exact ⟨rfl, HE4.out.trans (hbr.trans (hE9.trans hb10))⟩
      · skip
        have HU := Lib.hid (upd_ne (HMo.out.trans (by rw [decide_eq_false hab]; rfl)))
        have hz : (ta.toList == tb.toList) = false := eqS_no hab
        clear hab HMo H0 H1
        go_wp2_with fail
        have hE := (Ext.refl wr).drew
        refine wp_region_held_drew (S := (fun w' => w'.cell? ⟨bv, 0, none⟩ = some (.string v0) ∧ w'.cell? ⟨bv, 1, none⟩ = some (.string v1))) (by kernel_rfl) ?_ (fun hHeld => ?_)
        · (try dsimp only); exact HC.out _ hE
        refine wpAnyH_take (i := 0) (oi := { dst := some 92, op := _, type := _, pos := _, after := _, guard := _ }) (v := ?_) rfl (by kernel_rfl) (by kernel_rfl) (by kernel_rfl) (fun _ _ _ h => h) (Or.inl ⟨by rfl, ?_⟩) (by assumption) ?_
        rotate_left
        · (intro w hSw; (try dsimp only at hSw); go_simp; (try with_reducible rfl))
        (try simp only [Act.put, List.setIfInBounds_toArray, List.set_cons_zero, List.set_cons_succ])
        refine wpAnyH_take (i := 1) (oi := { dst := some 93, op := _, type := _, pos := _, after := _, guard := _ }) (v := ?_) rfl (by kernel_rfl) (by kernel_rfl) (by kernel_rfl) (fun _ _ _ h => h) (Or.inl ⟨by rfl, ?_⟩) (by assumption) ?_
        rotate_left
        · (intro w hSw; (try dsimp only at hSw); go_simp; (try with_reducible rfl))
        (try simp only [Act.put, List.setIfInBounds_toArray, List.set_cons_zero, List.set_cons_succ])
        refine wpAnyH_take (i := 2) (oi := { dst := some 94, op := _, type := _, pos := _, after := _, guard := _ }) (v := ?_) rfl (by kernel_rfl) (by kernel_rfl) (by kernel_rfl) (fun _ _ _ h => h) (Or.inl ⟨by rfl, ?_⟩) (by assumption) ?_
        rotate_left
        · (intro w hSw; (try dsimp only at hSw); go_simp; (try with_reducible rfl))
        (try simp only [Act.put, List.setIfInBounds_toArray, List.set_cons_zero, List.set_cons_succ])
        refine wpAnyH_take (i := 4) (oi := { dst := some 96, op := _, type := _, pos := _, after := _, guard := _ }) (v := ?_) rfl (by kernel_rfl) (by kernel_rfl) (by kernel_rfl) (fun _ _ _ h => h) (Or.inl ⟨by rfl, ?_⟩) (by assumption) ?_
        rotate_left
        · (intro w hSw; (try dsimp only at hSw); go_simp; (try with_reducible rfl))
        (try simp only [Act.put, List.setIfInBounds_toArray, List.set_cons_zero, List.set_cons_succ])
        refine wpAnyH_take (i := 5) (oi := { dst := some 97, op := _, type := _, pos := _, after := _, guard := _ }) (v := ?_) rfl (by kernel_rfl) (by kernel_rfl) (by kernel_rfl) (fun _ _ _ h => h) (Or.inl ⟨by rfl, ?_⟩) (by assumption) ?_
        rotate_left
        · (intro w hSw; (try dsimp only at hSw); go_simp; (try with_reducible rfl))
        (try simp only [Act.put, List.setIfInBounds_toArray, List.set_cons_zero, List.set_cons_succ])
        refine wpAnyH_take (i := 6) (oi := { dst := some 98, op := _, type := _, pos := _, after := _, guard := _ }) (v := ?_) rfl (by kernel_rfl) (by kernel_rfl) (by kernel_rfl) (fun _ _ _ h => h) (Or.inl ⟨by rfl, ?_⟩) (by assumption) ?_
        rotate_left
        · (intro w hSw; (try dsimp only at hSw); go_simp; (try with_reducible rfl))
        (try simp only [Act.put, List.setIfInBounds_toArray, List.set_cons_zero, List.set_cons_succ])
        refine wpAnyH_ready (rs := [3, 7]) (by kernel_rfl) (by simp) ?_
        refine AllReadyH.cons (o := { dst := some 95, op := _, type := _, pos := _, after := _, guard := _ }) rfl (fun K hK => ?_) (AllReadyH.cons (o := { dst := some 99, op := _, type := _, pos := _, after := _, guard := _ }) rfl (fun K hK => ?_) AllReadyH.nil)
        · go_simp
          refine (field_Add A4 n3 c4 FR etN v0 _ (HF4.out.ext (hbr.trans hE)) (by omega) (by decide)).mono ?_; rintro e w7 ⟨A7, c7, rfl, hf7, hk7, hb7, hown7⟩; clear hown7; rw [d_et] at hf7; replace hE := hE.trans hb7; clear hb7
          try go_wp2_with fail
          refine hK.out _ _ ?_ (fun hHeld => ?_)
          · (try dsimp only); exact HC.out _ hE
          clear hK K
          (try simp only [Act.put, List.setIfInBounds_toArray, List.set_cons_zero, List.set_cons_succ])
          refine wpAnyH_ready (rs := [7]) (by kernel_rfl) (by simp) ?_
          refine AllReadyH.cons (o := { dst := some 99, op := _, type := _, pos := _, after := _, guard := _ }) rfl (fun K hK => ?_) AllReadyH.nil
          have hr8 : RdF _ _ 1 [(etN, v1)] := rd_one15 (e := 54) (a := ⟨#[101, 116, 97, 103]⟩) (b := v1) hE; replace hf7 := hf7.alloc (.cells #[.string ⟨#[101, 116, 97, 103]⟩, .string v1] 54); replace hE := hE.alloc (.cells #[.string ⟨#[101, 116, 97, 103]⟩, .string v1] 54)
          go_simp
          skip
          try go_wp2_with fail
          refine hK.out _ _ ?_ (fun hHeld => ?_)
          · (try dsimp only); exact HC.out _ hE
          clear hK K
          (try simp only [Act.put, List.setIfInBounds_toArray, List.set_cons_zero, List.set_cons_succ])
          refine wpAnyH_ready (rs := [8]) (by kernel_rfl) (by simp) ?_
          refine AllReadyH.cons (o := { dst := some 100, op := _, type := _, pos := _, after := _, guard := _ }) rfl (fun K hK => ?_) AllReadyH.nil
          go_simp
          refine (sto_Update A7 (n3 + 1) c7 (FR ++ [(etN, v0)]) _ 1 1 [(etN, v1)] _ hf7 hr8 (by omega) (by decide) HZ0.out HZ1.out).mono ?_; rintro e w9 ⟨hup, hb9⟩; rw [HU.out] at hup; obtain rfl := hup; rw [show errV 20 = .iface 44 (.int .i64 20) from rfl]; replace hE := hE.trans hb9; clear hb9
          try go_wp2_with fail
          refine hK.out _ _ ?_ (fun hHeld => ?_)
          · (try dsimp only); exact HC.out _ hE
          clear hK K
          (try simp only [Act.put, List.setIfInBounds_toArray, List.set_cons_zero, List.set_cons_succ])
          refine wpAnyH_take (i := 9) (oi := { dst := some 91, op := _, type := _, pos := _, after := _, guard := _ }) (v := ?_) rfl (by kernel_rfl) (by kernel_rfl) (by kernel_rfl) (fun _ _ _ h => h) (Or.inl ⟨by rfl, ?_⟩) (by assumption) ?_
          rotate_left
          · (intro w hSw; (try dsimp only at hSw); go_simp; (try with_reducible rfl))
          (try simp only [Act.put, List.setIfInBounds_toArray, List.set_cons_zero, List.set_cons_succ])
          refine wpAnyH_take (i := 10) (oi := { dst := some 101, op := _, type := _, pos := _, after := _, guard := _ }) (v := ?_) rfl (by kernel_rfl) (by kernel_rfl) (by kernel_rfl) (fun _ _ _ h => h) (Or.inl ⟨by rfl, ?_⟩) (by assumption) ?_
          rotate_left
          · (intro w hSw; (try dsimp only at hSw); go_simp; (try with_reducible rfl))
          (try simp only [Act.put, List.setIfInBounds_toArray, List.set_cons_zero, List.set_cons_succ])
          refine wpAnyH_take (i := 11) (oi := { dst := some 102, op := _, type := _, pos := _, after := _, guard := _ }) (v := ?_) rfl (by kernel_rfl) (by kernel_rfl) (by kernel_rfl) (fun _ _ _ h => h) (Or.inl ⟨by rfl, ?_⟩) (by assumption) ?_
          rotate_left
          · (intro w hSw; (try dsimp only at hSw); go_simp; (try with_reducible rfl))
          (try simp only [Act.put, List.setIfInBounds_toArray, List.set_cons_zero, List.set_cons_succ])
          refine wpAnyH_take (i := 12) (oi := { dst := some 12, op := _, type := _, pos := _, after := _, guard := _ }) (v := ?_) rfl (by kernel_rfl) (by kernel_rfl) (by kernel_rfl) (fun _ _ _ h => h) (Or.inl ⟨by rfl, ?_⟩) (by assumption) ?_
          rotate_left
          · (intro w hSw; (try dsimp only at hSw); go_simp; (try with_reducible rfl))
          (try simp only [Act.put, List.setIfInBounds_toArray, List.set_cons_zero, List.set_cons_succ])
          refine wpAnyH_take (i := 13) (oi := { dst := some 13, op := _, type := _, pos := _, after := _, guard := _ }) (v := ?_) rfl (by kernel_rfl) (by kernel_rfl) (by kernel_rfl) (fun _ _ _ h => h) (Or.inl ⟨by rfl, ?_⟩) (by assumption) ?_
          rotate_left
          · (intro w hSw; (try dsimp only at hSw); go_simp; (try with_reducible rfl))
          (try simp only [Act.put, List.setIfInBounds_toArray, List.set_cons_zero, List.set_cons_succ])
          refine wpAnyH_done (by kernel_rfl) ?_ _
          have hr9 : RdF (w9.alloc (.cells #[.string ⟨#[101, 116, 97, 103]⟩, .string v1] 54)) (some ⟨w9.heap.size, 0, none⟩) 1 [(etN, v1)] := rd_one15 (e := 54) (a := ⟨#[101, 116, 97, 103]⟩) (b := v1) hE
          have hE9 := hE.alloc (.cells #[.string ⟨#[101, 116, 97, 103]⟩, .string v1] 54)
          have y0 := hE.cell q0; have y1 := hE.cell q1
          have x1 : w9.cell? ⟨bv, 1, none⟩ = some (.string v1) := (HC.out _ hE).2
          have HU2 := Lib.hid (sto_Update A4 n3 c4 FR _ 1 1 [(etN, v1)] _ (HF4.out.ext (hbr.trans hE9)) hr9 (by omega) (by decide) HZ3.out HZ1.out)
          rw [HMn.out] at HU2
          clear hr9
          go_wp2_with fail
          refine HU2.out.mono ?_; rintro e w10 ⟨⟨A10, n10, c10, rfl, hf10, hc10⟩, hb10⟩
          clear hf10
          replace y0 := (hb10.cell (((Ext.refl w9).alloc (.cells #[.string ⟨#[101, 116, 97, 103]⟩, .string v1] 54)).cell y0)); replace y1 := (hb10.cell (((Ext.refl w9).alloc (.cells #[.string ⟨#[101, 116, 97, 103]⟩, .string v1] 54)).cell y1))
          go_wp2_with fail
          refine (base_Is 20 20 (by decide) (by decide) (by decide) _).mono ?_; rintro e w11 ⟨rfl, hb11⟩
          go_wp2_with fail
          go_ret
          exact ⟨rfl, HE4.out.trans (hbr.trans (hE9.trans (hb10.trans hb11)))⟩
        · have hr8 : RdF _ _ 1 [(etN, v1)] := rd_one15 (e := 54) (a := ⟨#[101, 116, 97, 103]⟩) (b := v1) hE; replace hE := hE.alloc (.cells #[.string ⟨#[101, 116, 97, 103]⟩, .string v1] 54)
          go_simp
          skip
          try go_wp2_with fail
          refine hK.out _ _ ?_ (fun hHeld => ?_)
          · (try dsimp only); exact HC.out _ hE
          clear hK K
          (try simp only [Act.put, List.setIfInBounds_toArray, List.set_cons_zero, List.set_cons_succ])
          refine wpAnyH_ready (rs := [3]) (by kernel_rfl) (by simp) ?_
          refine AllReadyH.cons (o := { dst := some 95, op := _, type := _, pos := _, after := _, guard := _ }) rfl (fun K hK => ?_) AllReadyH.nil
          go_simp
          refine (field_Add A4 n3 c4 FR etN v0 _ (HF4.out.ext (hbr.trans hE)) (by omega) (by decide)).mono ?_; rintro e w7 ⟨A7, c7, rfl, hf7, hk7, hb7, hown7⟩; clear hown7; rw [d_et] at hf7; replace hr8 := hr8.ext hb7; replace hE := hE.trans hb7; clear hb7
          try go_wp2_with fail
          refine hK.out _ _ ?_ (fun hHeld => ?_)
          · (try dsimp only); exact HC.out _ hE
          clear hK K
          (try simp only [Act.put, List.setIfInBounds_toArray, List.set_cons_zero, List.set_cons_succ])
          refine wpAnyH_ready (rs := [8]) (by kernel_rfl) (by simp) ?_
          refine AllReadyH.cons (o := { dst := some 100, op := _, type := _, pos := _, after := _, guard := _ }) rfl (fun K hK => ?_) AllReadyH.nil
          go_simp
          refine (sto_Update A7 (n3 + 1) c7 (FR ++ [(etN, v0)]) _ 1 1 [(etN, v1)] _ hf7 hr8 (by omega) (by decide) HZ0.out HZ1.out).mono ?_; rintro e w9 ⟨hup, hb9⟩; rw [HU.out] at hup; obtain rfl := hup; rw [show errV 20 = .iface 44 (.int .i64 20) from rfl]; replace hE := hE.trans hb9; clear hb9
          try go_wp2_with fail
          refine hK.out _ _ ?_ (fun hHeld => ?_)
          · (try dsimp only); exact HC.out _ hE
          clear hK K
          (try simp only [Act.put, List.setIfInBounds_toArray, List.set_cons_zero, List.set_cons_succ])
          refine wpAnyH_take (i := 9) (oi := { dst := some 91, op := _, type := _, pos := _, after := _, guard := _ }) (v := ?_) rfl (by kernel_rfl) (by kernel_rfl) (by kernel_rfl) (fun _ _ _ h => h) (Or.inl ⟨by rfl, ?_⟩) (by assumption) ?_
          rotate_left
          · (intro w hSw; (try dsimp only at hSw); go_simp; (try with_reducible rfl))
          (try simp only [Act.put, List.setIfInBounds_toArray, List.set_cons_zero, List.set_cons_succ])
          refine wpAnyH_take (i := 10) (oi := { dst := some 101, op := _, type := _, pos := _, after := _, guard := _ }) (v := ?_) rfl (by kernel_rfl) (by kernel_rfl) (by kernel_rfl) (fun _ _ _ h => h) (Or.inl ⟨by rfl, ?_⟩) (by assumption) ?_
          rotate_left
          · (intro w hSw; (try dsimp only at hSw); go_simp; (try with_reducible rfl))
          (try simp only [Act.put, List.setIfInBounds_toArray, List.set_cons_zero, List.set_cons_succ])
          refine wpAnyH_take (i := 11) (oi := { dst := some 102, op := _, type := _, pos := _, after := _, guard := _ }) (v := ?_) rfl (by kernel_rfl) (by kernel_rfl) (by kernel_rfl) (fun _ _ _ h => h) (Or.inl ⟨by rfl, ?_⟩) (by assumption) ?_
          rotate_left
          · (intro w hSw; (try dsimp only at hSw); go_simp; (try with_reducible rfl))
          (try simp only [Act.put, List.setIfInBounds_toArray, List.set_cons_zero, List.set_cons_succ])
          refine wpAnyH_take (i := 12) (oi := { dst := some 12, op := _, type := _, pos := _, after := _, guard := _ }) (v := ?_) rfl (by kernel_rfl) (by kernel_rfl) (by kernel_rfl) (fun _ _ _ h => h) (Or.inl ⟨by rfl, ?_⟩) (by assumption) ?_
          rotate_left
          · (intro w hSw; (try dsimp only at hSw); go_simp; (try with_reducible rfl))
          (try simp only [Act.put, List.setIfInBounds_toArray, List.set_cons_zero, List.set_cons_succ])
          refine wpAnyH_take (i := 13) (oi := { dst := some 13, op := _, type := _, pos := _, after := _, guard := _ }) (v := ?_) rfl (by kernel_rfl) (by kernel_rfl) (by kernel_rfl) (fun _ _ _ h => h) (Or.inl ⟨by rfl, ?_⟩) (by assumption) ?_
          rotate_left
          · (intro w hSw; (try dsimp only at hSw); go_simp; (try with_reducible rfl))
          (try simp only [Act.put, List.setIfInBounds_toArray, List.set_cons_zero, List.set_cons_succ])
          refine wpAnyH_done (by kernel_rfl) ?_ _
          have hr9 : RdF (w9.alloc (.cells #[.string ⟨#[101, 116, 97, 103]⟩, .string v1] 54)) (some ⟨w9.heap.size, 0, none⟩) 1 [(etN, v1)] := rd_one15 (e := 54) (a := ⟨#[101, 116, 97, 103]⟩) (b := v1) hE
          have hE9 := hE.alloc (.cells #[.string ⟨#[101, 116, 97, 103]⟩, .string v1] 54)
          have y0 := hE.cell q0; have y1 := hE.cell q1
          have x1 : w9.cell? ⟨bv, 1, none⟩ = some (.string v1) := (HC.out _ hE).2
          have HU2 := Lib.hid (sto_Update A4 n3 c4 FR _ 1 1 [(etN, v1)] _ (HF4.out.ext (hbr.trans hE9)) hr9 (by omega) (by decide) HZ3.out HZ1.out)
          rw [HMn.out] at HU2
          clear hr9
          go_wp2_with fail
          refine HU2.out.mono ?_; rintro e w10 ⟨⟨A10, n10, c10, rfl, hf10, hc10⟩, hb10⟩
          clear hf10
          replace y0 := (hb10.cell (((Ext.refl w9).alloc (.cells #[.string ⟨#[101, 116, 97, 103]⟩, .string v1] 54)).cell y0)); replace y1 := (hb10.cell (((Ext.refl w9).alloc (.cells #[.string ⟨#[101, 116, 97, 103]⟩, .string v1] 54)).cell y1))
          go_wp2_with fail
          refine (base_Is 20 20 (by decide) (by decide) (by decide) _).mono ?_; rintro e w11 ⟨rfl, hb11⟩
          go_wp2_with fail
          go_ret
          exact ⟨rfl, HE4.out.trans (hbr.trans (hE9.trans (hb10.trans hb11)))⟩
end Go.Proofs.YtphgaommokgfcaaDoor
