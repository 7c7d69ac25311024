
/- The walk of directive.normal. -/
import Derived.Test.YtafmedphgmacaaaDoorNm
namespace Go.Proofs.YtafmedphgmacaaaDoor
open Go.RowKit

/-- Directives whose first k times are within their limits. -/
def dTo (d : D) : Nat → D
  | 0 => d
  | 1 => { d with n0 := nmT d.n0 }
  | 2 => { d with n0 := nmT d.n0, n1 := nmT d.n1 }
  | 3 => { d with n0 := nmT d.n0, n1 := nmT d.n1, n2 := nmT d.n2 }
  | 4 => { d with n0 := nmT d.n0, n1 := nmT d.n1, n2 := nmT d.n2, n3 := nmT d.n3 }
  | 5 => { d with n0 := nmT d.n0, n1 := nmT d.n1, n2 := nmT d.n2, n3 := nmT d.n3, n4 := nmT d.n4 }
  | _ => nmD d
def ptS (g : Nat) : Array Value := #[.pointer (some ⟨g, 6, none⟩), .pointer (some ⟨g, 7, none⟩), .pointer (some ⟨g, 8, none⟩), .pointer (some ⟨g, 9, none⟩), .pointer (some ⟨g, 10, none⟩), .pointer (some ⟨g, 11, none⟩)]

theorem d_cell (d : D) : ∀ k, k < 6 → ∃ x, (dArr (dTo d k))[6 + k]? = some (.int .i64 x) ∧ (dArr (dTo d k)).setIfInBounds (6 + k) (.int .i64 (max (-1) (min x 2147483647))) = dArr (dTo d (k + 1))
  | 0, _ => ⟨d.n0, rfl, rfl⟩
  | 1, _ => ⟨d.n1, rfl, rfl⟩
  | 2, _ => ⟨d.n2, rfl, rfl⟩
  | 3, _ => ⟨d.n3, rfl, rfl⟩
  | 4, _ => ⟨d.n4, rfl, rfl⟩
  | 5, _ => ⟨d.n5, rfl, rfl⟩
  | k + 6, h => absurd h (by omega)
theorem p_cell (g : Nat) : ∀ k, k < 6 → (ptS g)[k]? = some (.pointer (some ⟨g, 6 + k, none⟩))
  | 0, _ => rfl
  | 1, _ => rfl
  | 2, _ => rfl
  | 3, _ => rfl
  | 4, _ => rfl
  | 5, _ => rfl
  | k + 6, h => absurd h (by omega)

set_option maxHeartbeats 4000000 in
set_option maxRecDepth 100000 in
theorem dir_normal (d : D) (w : World) : Calls Tryd.prog 17 #[.agg (dArr d)] w fun e w' => e = .returned (.agg (dArr (nmD d))) ∧ Ext w w' := by
  have hA : Blk (((w.alloc (.cells (dArr d) 26)).alloc (.cells #[.bool false, .bool false, .bool false, .bool false, .bool false, .bool false, .int .i64 0, .int .i64 0, .int .i64 0, .int .i64 0, .int .i64 0, .int .i64 0] 26)).alloc (.cells #[.pointer (some ⟨w.heap.size, 6, none⟩), .pointer (some ⟨w.heap.size, 7, none⟩), .pointer (some ⟨w.heap.size, 8, none⟩), .pointer (some ⟨w.heap.size, 9, none⟩), .pointer (some ⟨w.heap.size, 10, none⟩), .pointer (some ⟨w.heap.size, 11, none⟩)] 61)) w.heap.size 26 (dArr d) := ((Blk.new w _ _).alloc _).alloc _
  have hR : Blk (((w.alloc (.cells (dArr d) 26)).alloc (.cells #[.bool false, .bool false, .bool false, .bool false, .bool false, .bool false, .int .i64 0, .int .i64 0, .int .i64 0, .int .i64 0, .int .i64 0, .int .i64 0] 26)).alloc (.cells #[.pointer (some ⟨w.heap.size, 6, none⟩), .pointer (some ⟨w.heap.size, 7, none⟩), .pointer (some ⟨w.heap.size, 8, none⟩), .pointer (some ⟨w.heap.size, 9, none⟩), .pointer (some ⟨w.heap.size, 10, none⟩), .pointer (some ⟨w.heap.size, 11, none⟩)] 61)) (w.heap.size + 1) 26 (dArr zeroD) := by
    have h := (Blk.new (w.alloc (.cells (dArr d) 26)) 26 (dArr zeroD)).alloc (.cells #[.pointer (some ⟨w.heap.size, 6, none⟩), .pointer (some ⟨w.heap.size, 7, none⟩), .pointer (some ⟨w.heap.size, 8, none⟩), .pointer (some ⟨w.heap.size, 9, none⟩), .pointer (some ⟨w.heap.size, 10, none⟩), .pointer (some ⟨w.heap.size, 11, none⟩)] 61)
    rw [World.size_alloc] at h
    exact h
  have hS : Blk (((w.alloc (.cells (dArr d) 26)).alloc (.cells #[.bool false, .bool false, .bool false, .bool false, .bool false, .bool false, .int .i64 0, .int .i64 0, .int .i64 0, .int .i64 0, .int .i64 0, .int .i64 0] 26)).alloc (.cells #[.pointer (some ⟨w.heap.size, 6, none⟩), .pointer (some ⟨w.heap.size, 7, none⟩), .pointer (some ⟨w.heap.size, 8, none⟩), .pointer (some ⟨w.heap.size, 9, none⟩), .pointer (some ⟨w.heap.size, 10, none⟩), .pointer (some ⟨w.heap.size, 11, none⟩)] 61)) (w.heap.size + 1 + 1) 61 (ptS w.heap.size) := by
    have h := Blk.new ((w.alloc (.cells (dArr d) 26)).alloc (.cells #[.bool false, .bool false, .bool false, .bool false, .bool false, .bool false, .int .i64 0, .int .i64 0, .int .i64 0, .int .i64 0, .int .i64 0, .int .i64 0] 26)) 61 (ptS w.heap.size)
    rw [World.size_alloc, World.size_alloc] at h
    exact h
  have hE := (((Ext.refl w).alloc (.cells (dArr d) 26)).alloc (.cells #[.bool false, .bool false, .bool false, .bool false, .bool false, .bool false, .int .i64 0, .int .i64 0, .int .i64 0, .int .i64 0, .int .i64 0, .int .i64 0] 26)).alloc (.cells #[.pointer (some ⟨w.heap.size, 6, none⟩), .pointer (some ⟨w.heap.size, 7, none⟩), .pointer (some ⟨w.heap.size, 8, none⟩), .pointer (some ⟨w.heap.size, 9, none⟩), .pointer (some ⟨w.heap.size, 10, none⟩), .pointer (some ⟨w.heap.size, 11, none⟩)] 61)
  have Hk := Lib.hid (⟨hA, hR, hS, hE⟩ : _ ∧ _ ∧ _ ∧ _)
  clear hA hR hS hE
  go_enter Tryd.func17, Tryd.ntmps17
  go_wp2_with fail
  obtain ⟨hA, hR, hS, hE⟩ := Hk.out
  clear Hk
  generalize ((w.alloc (.cells (dArr d) 26)).alloc (.cells #[.bool false, .bool false, .bool false, .bool false, .bool false, .bool false, .int .i64 0, .int .i64 0, .int .i64 0, .int .i64 0, .int .i64 0, .int .i64 0] 26)).alloc (.cells #[.pointer (some ⟨w.heap.size, 6, none⟩), .pointer (some ⟨w.heap.size, 7, none⟩), .pointer (some ⟨w.heap.size, 8, none⟩), .pointer (some ⟨w.heap.size, 9, none⟩), .pointer (some ⟨w.heap.size, 10, none⟩), .pointer (some ⟨w.heap.size, 11, none⟩)] 61) = W1 at *
  generalize hg : w.heap.size = gA at *
  have Hg := Lib.hid hg; clear hg
  have HE := Lib.hid (show Ext w W1 from hE)
  have HR := Lib.hid hR
  have HS := Lib.hid hS
  clear hE hR hS
  go_loopw [13] (fun i wr => ∃ k, k ≤ 6 ∧ i = .int .i64 (k : Nat) ∧ Blk wr gA 26 (dArr (dTo d k)) ∧ ExtB gA W1 wr) (fun i _ => 6 - (intOf i).toNat)
  case atStart => exact ⟨0, by omega, rfl, hA, ExtB.refl _ _⟩
  case round =>
    obtain ⟨k, hk, rfl, hB, hx⟩ := hrel
    have HSr := Lib.hid (HS.out.grown hx (by first | (simp; done) | (simp; omega)))
    have HRr := Lib.hid (HR.out.grown hx (by first | (simp; done) | (simp; omega)))
    by_cases hlt : k < 6
    · obtain ⟨x, hx1, hx2⟩ := d_cell d k hlt
      have hp := HSr.out.cell k
      rw [p_cell gA k hlt] at hp
      have hc := hB.cell (6 + k)
      rw [hx1] at hc
      have hfz := hB.frozen
      have HX := Lib.hid hx2
      have HB := Lib.hid hB
      clear hx1 hx2 hB
      go_wp2_with fail
      go_roundw
      case rel => exact ⟨k + 1, by omega, by go_num, by rw [← HX.out]; exact HB.out.set_ _ _, hx.set_ _ _⟩
      case measure => simp [intOf]; omega
    · obtain rfl : k = 6 := by omega
      have hB : Blk wr gA 26 (dArr (nmD d)) := hB
      have hne : gA ≠ gA + 1 := by omega
      go_wp2_with (first
        | (refine wpList_loadB rfl 26 (.tmp 1) rfl gA rfl 26 _ hB _ Tryd.underlying26 infoDp ?_)
        | (refine wpList_storeB rfl 26 (.tmp 2) (.tmp 25) rfl rfl (gA + 1) _ rfl rfl 26 _ HRr.out infoDp rfl (dArr_one (nmD d)) ?_; intro w9 hB9 hx9))
      refine bodyPost_ret (v := .agg (dArr (nmD d))) (results_cell_row rfl _ _ (gA + 1) 26 _ (0, 0) _ rfl hB9 Tryd.underlying26 rfl infoDp) rfl ⟨rfl, (HE.out.growB hx (by have := Hg.out; omega)).growB hx9 (by have := Hg.out; omega)⟩
end Go.Proofs.YtafmedphgmacaaaDoor
