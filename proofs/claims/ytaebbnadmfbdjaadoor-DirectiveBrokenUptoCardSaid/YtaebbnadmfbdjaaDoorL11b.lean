
/- The walk of DirectiveBroken: it returns true. -/
import Derived.Test.YtaebbnadmfbdjaaDoorL11c
set_option linter.unusedSimpArgs false
set_option linter.unusedVariables false
namespace Go.Proofs.YtaebbnadmfbdjaaDoor
open Go.RowKit

theorem brk_step {t : ByteArray} {k : Nat} (hk : k < t.size) (h : ∀ c ∈ t.data.toList.take k, ¬ c = 34 ∧ ¬ c = 92) (h1 : ¬ (t[k].toNat : Int) = 34) (h2 : ¬ (t[k].toNat : Int) = 92) : ∀ c ∈ t.data.toList.take (k + 1), ¬ c = 34 ∧ ¬ c = 92 := by
  rw [take_step _ k (by simpa using hk)]
  intro c hc
  rcases List.mem_append.1 hc with hc | hc
  · exact h c hc
  · simp only [List.mem_singleton, Array.getElem_toList] at hc
    have e : c = t[k] := hc
    subst e
    exact ⟨fun e => h1 (by rw [e]; rfl), fun e => h2 (by rw [e]; rfl)⟩

set_option maxHeartbeats 2000000 in
set_option maxRecDepth 100000 in
theorem broken_walk (A : Option Addr) (n c : Nat) (V : List ByteArray) (t : ByteArray) (w : World) (hr : RdS w A n V) (hb : V.length + totS V ≤ 1048576) (ht : t.size ≤ 1048576) (hg : Gl w) :
    Calls Tryd.prog 6 #[.slice A n c, .string t] w fun e w' => e = .returned (.bool true) ∧ Ext w w' := by
  have hl := hr.lenS
  have Hl := Lib.hid hl; clear hl
  have hn : n ≤ 1048576 := by have := Hl.out; omega
  go_enter Tryd.func6, Tryd.ntmps6
  go_wp2_with fail
  refine (law_large A n c V _ hr hb).mono ?_; rintro e w1 ⟨rfl, hb1⟩
  cases hlg : lgS V
  · by_cases h100 : t.size ≤ 100
    · have hsm := lg_no hlg
      clear hlg hb
      have hn : n ≤ 3000 := by have := Hl.out; omega
      have Hv := Lib.hid (show ∀ v ∈ V, v.size ≤ 3000 from fun v h => by have := totS_mem h; omega)
      go_wp2_with fail
      refine (law_awake _ (hg.ext hb1)).mono ?_; rintro e w2 ⟨rfl, hb2⟩
      have hbw2 := hb1.trans hb2
      go_wp2_with fail
      go_loopw [28] (fun i wr => ∃ k, k ≤ t.size ∧ i = .int .i64 (k : Nat) ∧ (∀ c ∈ t.data.toList.take k, ¬ c = 34 ∧ ¬ c = 92) ∧ Ext w wr) (fun i _ => t.size - (intOf i).toNat)
      case atStart => exact ⟨0, Nat.zero_le _, rfl, (fun c h => by simp at h), hbw2⟩
      case round =>
        obtain ⟨k, hk, rfl, hall, hbr⟩ := hrel
        have Hall := Lib.hid hall; clear hall
        by_cases hlt : k < t.size
        · by_cases h34 : (t[k].toNat : Int) = 34
          · go_wp2_with fail
            go_ret
            exact ⟨rfl, hbr⟩
          · by_cases h92 : (t[k].toNat : Int) = 92
            · go_wp2_with fail
              go_ret
              exact ⟨rfl, hbr⟩
            · have Hst := Lib.hid (brk_step hlt Hall.out h34 h92)
              have hq34 : ((t[k].toNat : Int) == 34) = false := by simp [h34]
              have hq92 : ((t[k].toNat : Int) == 92) = false := by simp [h92]
              go_wp2_with fail
              go_roundw
              case rel => exact ⟨k + 1, by omega, by go_num, Hst.out, hbr⟩
              case measure => simp [intOf]; omega
        · obtain rfl : k = t.size := by omega
          have Hd := Lib.hid (dirs_brk V (t := t) (by have h := Hall.out; rwa [List.take_of_length_le (by simp)] at h))
          clear Hall
          go_wp2_with fail
          refine (law_Fields A n c V _ (hr.ext hbr) (by omega)).mono ?_; rintro e w3 ⟨A3, c3, rfl, hf3, hc3, hb3⟩
          have hbw3 := hbr.trans hb3
          go_wp2_with fail
          refine (dir_Parse _ _ _ _ _ hf3 (by omega) (bsz_flds (fun v hv => by have := Hv.out v hv; omega) (by decide)) (hg.ext hbw3)).mono ?_; rintro e w4 ⟨rfl, hb4⟩
          rw [all_flds]
          have hbw4 := hbw3.trans hb4
          have hsum : ∀ w, (Op.stringOp .add brkP t).run Tryd.prog w = .ok (.string (brkP ++ t)) w := fun w => run_string_add_sum w _ t (by rw [show brkP.size = 18 from rfl]; omega)
          unfold brkP at hsum
          go_upto_region 12 with (first
            | (refine wpList_storeB rfl 28 (.tmp 6) (.tmp 44) rfl rfl w4.heap.size _ rfl rfl 28 _ (Blk.new w4 _ _) infoDp rfl (dArr_one _) ?_; intro w5 hB5 hx5; have hz5 := hB5.cell 0; have hq5 := hB5.frozen 0; simp only [dArr] at hz5))
          have hbw5 := ((hbw4.alloc (.cells (dArr zeroD) 28)).growB hx5 hbw4.size).setCell (p := ⟨w4.heap.size, 0, none⟩) hbw4.size (.bool true)
          have HR5 := Lib.hid (show Blk (w5.setCell ⟨w4.heap.size, 0, none⟩ (.bool true)) w4.heap.size 28 (dArr { dirS V with b0 := true }) from hB5.set_ 0 (.bool true))
          have hrV5 := hr.ext hbw5
          clear hz5 hq5 hB5 hx5
          have heq := eqlP { dirS V with b0 := true }
          generalize dirS V = DV at *
          generalize w4.heap.size = g at *
          generalize w5.setCell ⟨g, 0, none⟩ (.bool true) = W5 at *
          unfold dArr at heq
          have hjz : (brkP ++ t).size ≤ 118 := by rw [ByteArray.size_append, show brkP.size = 18 from rfl]; omega
          have Hbz := Lib.hid (show ∀ v ∈ (brkP ++ t) :: V, v.size ≤ 1048576 from fun v hv => by
            rcases List.mem_cons.1 hv with rfl | hv
            · omega
            · have := Hv.out v hv; omega)
          unfold brkP at Hbz hjz Hd
          generalize ((⟨#[112, 117, 98, 108, 105, 99, 44, 32, 109, 97, 120, 45, 97, 103, 101, 61, 34, 49]⟩ : ByteArray) ++ t) = J at *
          go_region_held3 (fun w' => w'.cell? ⟨g, 0, none⟩ = some (.bool true) ∧ w'.cell? ⟨g, 1, none⟩ = some (.bool DV.b1) ∧ w'.cell? ⟨g, 2, none⟩ = some (.bool DV.b2) ∧ w'.cell? ⟨g, 3, none⟩ = some (.bool DV.b3) ∧ w'.cell? ⟨g, 4, none⟩ = some (.bool DV.b4) ∧ w'.cell? ⟨g, 5, none⟩ = some (.bool DV.b5) ∧ w'.cell? ⟨g, 6, none⟩ = some (.int .i64 DV.n0) ∧ w'.cell? ⟨g, 7, none⟩ = some (.int .i64 DV.n1) ∧ w'.cell? ⟨g, 8, none⟩ = some (.int .i64 DV.n2) ∧ w'.cell? ⟨g, 9, none⟩ = some (.int .i64 DV.n3) ∧ w'.cell? ⟨g, 10, none⟩ = some (.int .i64 DV.n4) ∧ w'.cell? ⟨g, 11, none⟩ = some (.int .i64 DV.n5)) (first | exact c12 HR5.out | exact c12 hR6.out | exact c12 hR7.out | exact c12 hR8.out | exact c12 (HR5.out.ext ((Ext.refl _).alloc _).drew) | exact c12 (HR5.out.drew))
            (first
            | (refine step_app _ rfl (.tmp 49) (.tmp 50) 22 rfl W5 9 _ 1 16 Tryd.underlying22 infoStr rfl (by decide) _ 1 [.string J] rfl (own_lit W5 #[.string J] 9 rfl 1 1 rfl (by simp [maxLen])) A n c _ rfl (hrV5.alloc _) (strCells_one _) ((Ext.refl W5).alloc _).drew (by omega) (by decide) ?_; intro A6 c6 w6 hown6 hb6 hle6; have hR6 := Lib.hid (HR5.out.ext hb6); have hbw6 := hbw5.trans hb6; have hr6 := Rd.of_own hown6)
            | (go_at_call 15; refine (law_Fields A6 (1 + n) c6 (J :: V) _ ?_ (by omega)).mono ?_; exact hr6; rintro e w7 ⟨A7, c7, rfl, hf7, hc7, hb7⟩; have hR7 := Lib.hid (hR6.out.ext hb7); have hbw7 := hbw6.trans hb7)
            | (go_at_call 14; refine (dir_Parse _ _ _ _ _ hf7 (by omega) (bsz_flds Hbz.out (by decide)) (hg.ext hbw7)).mono ?_; rintro e w8 ⟨rfl, hb8⟩; rw [all_flds, Hd.out]; unfold dArr; have hR8 := Lib.hid (hR7.out.ext hb8); have hbw8 := hbw7.trans hb8))
          all_goals
            go_wp2_with fail
            go_ret
            exact ⟨rfl, hbw8⟩
    · go_wp2_with fail
      refine (law_large A n c V _ (hr.ext hb1) hb).mono ?_; rintro e w2 ⟨rfl, hb2⟩
      rw [hlg]
      go_wp2_with fail
      go_ret
      exact ⟨rfl, hb1.trans hb2⟩
  · go_wp2_with fail
    refine (law_large A n c V _ (hr.ext hb1) hb).mono ?_; rintro e w2 ⟨rfl, hb2⟩
    rw [hlg]
    go_wp2_with fail
    go_ret
    exact ⟨rfl, hb1.trans hb2⟩
end Go.Proofs.YtaebbnadmfbdjaaDoor
