
/- The walk of LifetimeBroken. -/
import Derived.Test.YtjacgdjnocpodaaDoorL14d
namespace Go.Proofs.YtjacgdjnocpodaaDoor
open Go.RowKit

set_option maxHeartbeats 8000000 in
set_option maxRecDepth 100000 in
theorem broken_walk (s g c : Int) (t : ByteArray) (st : Int) (w : World) (ht : t.size ≤ 140737488351232) (hg : GlH w) (hgl : Gl w) :
    Calls Tryd.prog 7 #[.agg #[.int .i64 s, .int .i64 g, .int .i64 c], .string t, .int .i64 st] w fun e w' => e = .returned (.bool true) ∧ Ext w w' := by
  have hE0 := (Ext.refl w).alloc (.cells #[.int .i64 s, .int .i64 g, .int .i64 c] 35)
  have hB := Blk.new w 35 #[.int .i64 s, .int .i64 g, .int .i64 c]
  have b0 : (w.alloc (.cells #[.int .i64 s, .int .i64 g, .int .i64 c] 35)).cell? ⟨w.heap.size, 0, none⟩ = some (.int .i64 s) := hB.cell 0
  have b1 : (w.alloc (.cells #[.int .i64 s, .int .i64 g, .int .i64 c] 35)).cell? ⟨w.heap.size, 1, none⟩ = some (.int .i64 g) := hB.cell 1
  have b2 : (w.alloc (.cells #[.int .i64 s, .int .i64 g, .int .i64 c] 35)).cell? ⟨w.heap.size, 2, none⟩ = some (.int .i64 c) := hB.cell 2
  clear hB
  have HE := Lib.hid hE0
  go_enter Tryd.func7, Tryd.ntmps7
  go_wp2_with fail
  refine (law14_dated s g c _ (hg.ext HE.out)).mono ?_; rintro e w1 ⟨A, k, S, G, C, rfl, hr, hk, hbd, hb1⟩
  have h1 := HE.out.trans hb1
  clear b0 b1 b2 hE0
  by_cases h100 : t.size ≤ 100
  rotate_left
  · go_wp2_with fail
    go_ret
    exact ⟨rfl, h1⟩
  obtain ⟨s0, s1, g0, g1, c0, c1⟩ := hbd
  have Hsum0 := Lib.hid (dat_sum (a := S) (b := S + G) (c := S - C) (by omega) (by omega) (by omega))
  clear s0 s1 g0 g1 c0 c1
  have z100 : decide ((100 : Int) < (t.size : Int)) = false := decide_eq_false (by omega)
  go_wp2_with fail
  refine (law14_awake _ (hg.ext h1) (hgl.ext h1)).mono ?_; rintro e w2 ⟨rfl, hb2⟩
  have h2 := h1.trans hb2
  go_wp2_with fail
  refine (http_Parse t _ (by omega) (hg.ext h2)).mono ?_; rintro e w3 ⟨rfl, hb3⟩
  have h3 := h2.trans hb3
  cases hd : dateP t with
  | some q =>
    clear hd
    rw [show dpV (some q) = .tuple #[.int .i64 q, .nilIface] from rfl]
    go_wp2_with fail
    go_ret
    exact ⟨rfl, h3⟩
  | none =>
    have P1 := Lib.hid (fun k (h : k < 2) => brk_set (a := S) (b := S + G) (c := S - C) st hd h)
    have P2 := Lib.hid (fun k (h : k < 2) => brk_add (a := S) (b := S + G) (c := S - C) st t h)
    have P3 := Lib.hid (fun k (h : k < 2) => brk_heur (a := S) (b := S + G) (c := S - C) st hd h)
    have hl : (datF S (S + G) (S - C)).length = 3 := rfl
    have hsum := Hsum0.out
    clear Hsum0
    generalize datF S (S + G) (S - C) = FS at *
    clear hd
    have Hl := Lib.hid hl; have Hsum := Lib.hid hsum; have H100 := Lib.hid h100
    have HF := Lib.hid (hr.ext (hb2.trans hb3))
    have HG := Lib.hid (hg.ext h3)
    have HGL := Lib.hid (hgl.ext h3)
    have H3 := Lib.hid h3
    clear hl hsum hr hg hgl h1 h2 h3 hb1 hb2 hb3 HE
    rw [show dpV none = .tuple #[.int .i64 0, .iface 70 (.int .i64 2)] from rfl]
    go_wp2_with fail
    have hNm : RdS (w3.alloc (.cells #[.string ⟨#[100, 97, 116, 101]⟩, .string ⟨#[101, 120, 112, 105, 114, 101, 115]⟩] 9)) (some ⟨w3.heap.size, 0, none⟩) 2 nmB := Rd.lit w3 #[.string ⟨#[100, 97, 116, 101]⟩, .string ⟨#[101, 120, 112, 105, 114, 101, 115]⟩] 9 rfl 1 2 rfl
    have hE4 := (Ext.refl w3).alloc (.cells #[.string ⟨#[100, 97, 116, 101]⟩, .string ⟨#[101, 120, 112, 105, 114, 101, 115]⟩] 9)
    generalize (w3.alloc (.cells #[.string ⟨#[100, 97, 116, 101]⟩, .string ⟨#[101, 120, 112, 105, 114, 101, 115]⟩] 9)) = w4 at *
    generalize w3.heap.size = bN at *
    have HNm := Lib.hid hNm
    have HE4 := Lib.hid hE4
    clear hNm hE4
    go_loopw [56] (fun i wr => ∃ k, k ≤ 2 ∧ i = .int .i64 (k : Nat) ∧ Ext w4 wr) (fun i _ => 2 - (intOf i).toNat)
    case atStart => exact ⟨0, by omega, rfl, Ext.refl _⟩
    case round =>
      obtain ⟨j, hj, rfl, hbr⟩ := hrel
      by_cases hlt : j < 2
      · have P1j := Lib.hid (P1.out j hlt)
        have P2j := Lib.hid (P2.out j hlt)
        have Hnm := Lib.hid (nmB_small hlt)
        obtain ⟨b, o, hbo, hcn⟩ := (HNm.out.ext hbr).atS (show j < nmB.length from hlt)
        injection hbo with hbo
        injection hbo with e1 e2
        subst e1; subst e2
        rw [Nat.zero_add] at hcn
        generalize nmB[j] = nm at *
        have h4 := HE4.out.trans hbr
        go_wp2_with fail
        refine (field_Set A 3 k FS nm t _ (HF.out.ext h4) (by decide) (by have := Hnm.out; omega) ((bsz_of_sumF _).mono (by have := Hsum.out; omega))).mono ?_; rintro e w5 ⟨A5, n5, k5, rfl, hf5, hk5, hb5, _⟩
        have h5 := h4.trans hb5
        have hsl := setS_len nm t FS
        have hss := sumF_setD nm t FS
        have hn5 : n5 ≤ 4 ∧ sumF (setS nm t FS) ≤ 400 := by have := hf5.lenF; have := Hl.out; have := Hsum.out; have := Hnm.out; have := H100.out; omega
        have Hn5 := Lib.hid hn5
        clear hsl hss hn5
        go_wp2_with fail
        refine (life_Of st A5 n5 k5 _ _ hf5 (by have := Hn5.out; omega) ((bsz_of_sumF _).mono (by have := Hn5.out; omega)) (HG.out.ext h5) (by have := Hn5.out; omega) (HGL.out.ext h5)).mono ?_; rintro e w6 ⟨rfl, hb6⟩
        have h6 := h5.trans hb6
        rw [P1j.out, show pairV (0, 3) = .tuple #[.int .i64 0, .int .i64 3] from rfl]
        go_wp2_with fail
        refine (field_Add A 3 k FS nm t _ (HF.out.ext h6) (by decide) (by have := Hnm.out; omega)).mono ?_; rintro e w7 ⟨A7, k7, rfl, hf7, hk7, hb7, _⟩
        have h7 := h6.trans hb7
        have hs7 : sumF (FS ++ [(lowS nm, t)]) ≤ 400 := by
          rw [sumF_app14, show sumF [(lowS nm, t)] = nm.size + t.size by simp [sumF, lowS_size]]
          have := Hsum.out; have := Hnm.out; have := H100.out; omega
        have Hs7 := Lib.hid hs7; clear hs7
        go_wp2_with fail
        refine (life_Of st A7 (3 + 1) k7 _ _ hf7 (by decide) ((bsz_of_sumF _).mono (by have := Hs7.out; omega)) (HG.out.ext h7) (by have := Hs7.out; omega) (HGL.out.ext h7)).mono ?_; rintro e w8 ⟨rfl, hb8⟩
        rw [P2j.out, show pairV (0, 3) = .tuple #[.int .i64 0, .int .i64 3] from rfl]
        go_wp2_with fail
        go_roundw
        case rel => exact ⟨j + 1, by omega, by go_num, (((hbr.trans hb5).trans hb6).trans hb7).trans hb8⟩
        case measure => simp [intOf]; omega
      · obtain rfl : j = 2 := by omega
        clear hlt hj P1 P2 HNm
        have h4 := HE4.out.trans hbr
        go_wp2_with fail
        refine (field_Remove A 3 k FS expN _ (HF.out.ext h4) (by decide) (by decide) ((bsz_of_sumF _).mono (by have := Hsum.out; omega))).mono ?_; rintro e w5 ⟨A5, n5, k5, rfl, hf5, hk5, hb5, _⟩
        have hrl := remS_le FS expN
        have hrs := sumF_remD expN FS
        have Hr := Lib.hid (show n5 ≤ 3 ∧ sumF (remS FS expN) ≤ 111 ∧ (remS FS expN).length = n5 by have := hf5.lenF; have := Hl.out; have := Hsum.out; omega)
        have H5 := Lib.hid (h4.trans hb5)
        have Hf5 := Lib.hid hf5
        generalize remS FS expN = RS at *
        clear hrl hrs h4 hbr hf5 hb5 HE4 HF
        go_wp2_with fail
        have hNm : RdS (w5.alloc (.cells #[.string ⟨#[100, 97, 116, 101]⟩, .string ⟨#[108, 97, 115, 116, 45, 109, 111, 100, 105, 102, 105, 101, 100]⟩] 9)) (some ⟨w5.heap.size, 0, none⟩) 2 nmC := Rd.lit w5 #[.string ⟨#[100, 97, 116, 101]⟩, .string ⟨#[108, 97, 115, 116, 45, 109, 111, 100, 105, 102, 105, 101, 100]⟩] 9 rfl 1 2 rfl
        have hE6 := (Ext.refl w5).alloc (.cells #[.string ⟨#[100, 97, 116, 101]⟩, .string ⟨#[108, 97, 115, 116, 45, 109, 111, 100, 105, 102, 105, 101, 100]⟩] 9)
        generalize (w5.alloc (.cells #[.string ⟨#[100, 97, 116, 101]⟩, .string ⟨#[108, 97, 115, 116, 45, 109, 111, 100, 105, 102, 105, 101, 100]⟩] 9)) = w6 at *
        generalize w5.heap.size = bM at *
        have HNm := Lib.hid hNm
        have HE6 := Lib.hid hE6
        clear hNm hE6
        rename_i wr0
        go_loopw [97] (fun i wr => ∃ k, k ≤ 2 ∧ i = .int .i64 (k : Nat) ∧ Ext w6 wr) (fun i _ => 2 - (intOf i).toNat)
        case atStart => exact ⟨0, by omega, rfl, Ext.refl _⟩
        case round =>
          obtain ⟨j, hj, rfl, hbr⟩ := hrel
          by_cases hlt : j < 2
          · have P3j := Lib.hid (P3.out j hlt)
            have Hnm := Lib.hid (nmC_small hlt)
            obtain ⟨b, o, hbo, hcn⟩ := (HNm.out.ext hbr).atS (show j < nmC.length from hlt)
            injection hbo with hbo
            injection hbo with e1 e2
            subst e1; subst e2
            rw [Nat.zero_add] at hcn
            generalize nmC[j] = nm at *
            have h6 := HE6.out.trans hbr
            go_wp2_with fail
            refine (field_Set A5 n5 k5 RS nm t _ (Hf5.out.ext h6) (by have := Hr.out; omega) (by have := Hnm.out; omega) ((bsz_of_sumF _).mono (by have := Hr.out; omega))).mono ?_; rintro e w7 ⟨A7, n7, k7, rfl, hf7, hk7, hb7, _⟩
            have h7 := h6.trans hb7
            have hsl := setS_len nm t RS
            have hss := sumF_setD nm t RS
            have hn7 : n7 ≤ 4 ∧ sumF (setS nm t RS) ≤ 400 := by have := hf7.lenF; have := Hr.out; have := Hnm.out; have := H100.out; omega
            have Hn7 := Lib.hid hn7
            clear hsl hss hn7
            go_wp2_with fail
            refine (life_Of st A7 n7 k7 _ _ hf7 (by have := Hn7.out; omega) ((bsz_of_sumF _).mono (by have := Hn7.out; omega)) (HG.out.ext (H5.out.trans h7)) (by have := Hn7.out; omega) (HGL.out.ext (H5.out.trans h7))).mono ?_; rintro e w8 ⟨rfl, hb8⟩
            rw [P3j.out, show pairV (0, 5) = .tuple #[.int .i64 0, .int .i64 5] from rfl]
            go_wp2_with fail
            go_roundw
            case rel => exact ⟨j + 1, by omega, by go_num, (hbr.trans hb7).trans hb8⟩
            case measure => simp [intOf]; omega
          · obtain rfl : j = 2 := by omega
            go_wp2_with fail
            go_ret
            exact ⟨rfl, H3.out.trans (H5.out.trans (HE6.out.trans hbr))⟩
end Go.Proofs.YtjacgdjnocpodaaDoor
