/- StorableUpdates returns true. -/
import Derived.Test.YtphgaommokgfcaaGreatDoorJ5
set_option linter.unusedSimpArgs false
set_option linter.unusedVariables false
namespace Go.Proofs.YtphgaommokgfcaaGreatDoor
open Go.RowKit

theorem upd_len {st fr L : List Fd} (h : updS st fr = some L) : L.length ≤ st.length + fr.length := by
  unfold updS at h
  cases hc : cflS st fr
  · rw [hc] at h; injection h with h
    subst h
    unfold outS
    rw [List.length_append]
    have h1 : (updN fr).length ≤ fr.length := by
      unfold updN remS stripS
      exact Nat.le_trans (List.length_filter_le _ _) (Nat.le_trans (List.length_filter_le _ _) (Nat.le_trans (List.length_filter_le _ _) (List.length_filter_le _ _)))
    have h2 : (st.filter fun x => !hasF (updN fr) x.1).length ≤ st.length := List.length_filter_le _ _
    omega
  · rw [hc] at h; cases h
set_option maxHeartbeats 16000000 in
set_option maxRecDepth 100000 in
theorem updates_walk (As : Option Addr) (ns cs : Nat) (st : List Fd) (Af : Option Addr) (nf cf : Nat) (fr : List Fd) (w : World) (hfs : RdF w As ns st) (hff : RdF w Af nf fr) (hbs : st.length + sumF st ≤ 1048576) (hbf : fr.length + sumF fr ≤ 1048576) (hg : GlH w) (hgl : Gl w) :
    Calls Tryz.prog 4 #[.slice As ns cs, .slice Af nf cf] w fun e w' => e = .returned (.bool true) ∧ Ext w w' := by
  have Hls := Lib.hid hfs.lenF
  have Hlf := Lib.hid hff.lenF
  have HLg := Lib.hid (fun w' (h : Ext w w') => large_two As ns cs st Af nf cf fr w' (hfs.ext h) (hff.ext h) hbs hbf)
  have Hno := Lib.hid (fun h => @large_no As ns cs st Af nf cf fr w hfs hff h)
  clear hbs hbf
  go_enter Tryz.func4, Tryz.ntmps4
  go_wp2_with fail
  refine (HLg.out _ (Ext.refl w) _ rfl).mono ?_; rintro e w1 ⟨rfl, hb1⟩
  generalize decide (4000 < tot15 [((As, ns, cs), st), ((Af, nf, cf), fr)]) = lg at *
  cases lg
  rotate_left
  · go_wp2_with fail
    refine (HLg.out _ hb1 _ rfl).mono ?_; rintro e w2 ⟨rfl, hb2⟩
    go_wp2_with fail
    go_ret
    exact ⟨rfl, hb1.trans hb2⟩
  obtain ⟨hns, hnf, hss, hsf, hzs, hzf⟩ := Hno.out rfl
  have hzs1 : Bsz 1048576 st := hzs.mono (by decide)
  have hzf1 : Bsz 6000 fr := hzf.mono (by decide)
  have HZ := Lib.hid (⟨hzs1, hzf1, hzf1.mono (by decide)⟩ : Bsz 1048576 st ∧ Bsz 6000 fr ∧ Bsz 1048576 fr)
  clear Hno HLg hzs hzf hzs1 hzf1
  go_wp2_with fail
  refine (law15_awake _ (hg.ext hb1) (hgl.ext hb1)).mono ?_; rintro e w2 ⟨rfl, hb2⟩
  have HE2 := Lib.hid (hb1.trans hb2)
  clear hb1 hb2
  go_wp2_with fail
  refine (law_Fields As ns cs st _ (hfs.ext HE2.out) (by omega)).mono ?_; rintro e w3 ⟨A1, c1, rfl, hf1, hk1, hb3, hown1⟩
  clear hown1
  have HE3 := Lib.hid (HE2.out.trans hb3)
  go_wp2_with fail
  refine (law_Fields Af nf cf fr _ (hff.ext HE3.out) (by omega)).mono ?_; rintro e w4 ⟨A2, c2, rfl, hf2, hk2, hb4, hown2⟩
  clear hown2
  have HE4 := Lib.hid (HE3.out.trans hb4)
  have HF1 := Lib.hid (hf1.ext hb4)
  have HF2 := Lib.hid hf2
  clear hf1 hf2 hb3 hb4 HE2 HE3
  go_wp2_with fail
  refine (sto_Update A1 ns c1 st A2 nf c2 fr w4 HF1.out HF2.out (by omega) hnf HZ.out.1 HZ.out.2.1).mono ?_; rintro e w5 ⟨hup, hb5⟩
  have HE5 := Lib.hid (HE4.out.trans hb5)
  have HRU := Lib.hid (ref15_Update As ns cs st Af nf cf fr w5 (hfs.ext HE5.out) (hff.ext HE5.out) (by omega) hnf HZ.out.1 HZ.out.2.1)
  clear hb5 HE4 HF1 HF2
  cases hu : updS st fr with
  | none =>
    rw [hu] at hup HRU
    obtain rfl := hup
    clear hu
    rw [show errV 20 = .iface 66 (.int .i64 20) from rfl]
    go_wp2_with fail
    refine HRU.out.mono ?_; rintro e w6 ⟨rfl, hb6⟩
    go_wp2_with fail
    refine (base_Num 20 (by decide) _).mono ?_; rintro e w7 ⟨rfl, hb7⟩
    go_wp2_with fail
    refine (law_Are none none 0 0 0 0 [] [] _ (rdF_nil _ _) (rdF_nil _ _) (by decide) (by decide)).mono ?_; rintro e w8 ⟨rfl, hb8⟩
    go_wp2_with fail
    go_ret
    exact ⟨rfl, HE5.out.trans (hb6.trans (hb7.trans hb8))⟩
  | some L =>
    have hLl := upd_len hu
    rw [hu] at hup HRU
    obtain ⟨A5, n5, c5, rfl, hf5, hc5⟩ := hup
    have hn5 : n5 ≤ 4000 := by have := hf5.lenF; have := Hls.out; have := Hlf.out; omega
    have HF5 := Lib.hid hf5
    clear hu hf5
    go_wp2_with fail
    refine HRU.out.mono ?_; rintro e w6 ⟨⟨A6, n6, c6, rfl, hf6, hc6⟩, hb6⟩
    have hn6 : n6 ≤ 4000 := by have := hf6.lenF; have := Hls.out; have := Hlf.out; omega
    go_wp2_with fail
    refine (base_Num 0 (by decide) _).mono ?_; rintro e w7 ⟨rfl, hb7⟩
    have HA := Lib.hid (law_Are A5 A6 n5 c5 n6 c6 L L w7 (HF5.out.ext (hb6.trans hb7)) (hf6.ext hb7) (by omega) (by omega))
    rw [decide_eq_true (rfl : L = L)] at HA
    clear hf6
    go_wp2_with fail
    refine HA.out.mono ?_; rintro e w8 ⟨rfl, hb8⟩
    go_wp2_with fail
    go_ret
    exact ⟨rfl, HE5.out.trans (hb6.trans (hb7.trans hb8))⟩
end Go.Proofs.YtphgaommokgfcaaGreatDoor
