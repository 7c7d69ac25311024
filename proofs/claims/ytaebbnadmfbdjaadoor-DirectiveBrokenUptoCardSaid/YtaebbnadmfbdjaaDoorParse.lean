
/- The walks of None, directive.Parse and quaysideref11.Parse. -/
import Derived.Test.YtaebbnadmfbdjaaDoorWith
import Derived.Test.YtaebbnadmfbdjaaDoorAllO
set_option linter.unusedSimpArgs false
set_option linter.unusedVariables false
namespace Go.Proofs.YtaebbnadmfbdjaaDoor
open Go.RowKit

/-- Directives with one value more; the directives of values. -/
def stepV (d : D) (v : ByteArray) : D := if (partsS v 44).isSome then (itemsS v).foldl stepD d else { d with b0 := true }
def dirS (vs : List ByteArray) : D := vs.foldl stepV noneD
def ccN : ByteArray := ⟨#[99, 97, 99, 104, 101, 45, 99, 111, 110, 116, 114, 111, 108]⟩
theorem dirS_step {vs : List ByteArray} {k : Nat} (h : k < vs.length) : dirS (vs.take (k + 1)) = stepV (dirS (vs.take k)) vs[k] := by
  unfold dirS; rw [take_step vs k h, List.foldl_append]; rfl
theorem fold_step {α β : Type} (f : β → α → β) (z : β) {l : List α} {k : Nat} (h : k < l.length) : (l.take (k + 1)).foldl f z = f ((l.take k).foldl f z) l[k] := by
  rw [take_step l k h, List.foldl_append]; rfl
theorem stepV_no {d : D} {v : ByteArray} (h : partsS v 44 = none) : stepV d v = { d with b0 := true } := by unfold stepV; rw [h]; rfl
theorem stepV_yes {d : D} {v : ByteArray} {P : List ByteArray} (h : partsS v 44 = some P) : stepV d v = (itemsS v).foldl stepD d := by unfold stepV; rw [h]; rfl
theorem own_far {w : World} {base e k n m c : Nat} {A : Option Addr} {xs : List Value} (h : w.ownsRow base e k (.slice A n c) m xs) : ∀ a, A = some a → base ≤ a.block := by
  intro a ha
  rcases h.2 with ⟨hv, _⟩ | ⟨g, cap, cur, hv, hb, _⟩
  · obtain ⟨h1, -, -⟩ := slice_inj hv; rw [ha] at h1; cases h1
  · obtain ⟨h1, -, -⟩ := slice_inj hv; rw [ha] at h1; injection h1 with h1; rw [h1]; exact hb
theorem infoDp : (Tryd.prog.info? 28).map (·.size) = some 12 := by kernel_rfl

set_option maxHeartbeats 1000000 in
set_option maxRecDepth 100000 in
theorem dir_None (w : World) : Calls Tryd.prog 18 #[] w fun e w' => e = .returned (.agg (dArr noneD)) ∧ Ext w w' := by
  go_enter Tryd.func18, Tryd.ntmps18
  go_wp2_with (first
    | (refine wpList_storeB rfl 28 (.tmp 0) (.tmp 1) rfl rfl w.heap.size _ rfl rfl 28 _ (Blk.new w _ _) infoDp rfl (dArr_one noneD) ?_; intro w9 hB9 hx9))
  exact bodyPost_ret (v := .agg (dArr noneD)) (results_cell_row rfl _ _ w.heap.size 28 _ (0, 0) _ rfl hB9 Tryd.underlying28 rfl infoDp) rfl ⟨rfl, ((Ext.refl w).alloc _).growB hx9 (Nat.le_refl _)⟩

set_option maxHeartbeats 1000000 in
set_option maxRecDepth 100000 in
theorem ref_None (w : World) : Calls Tryd.prog 17 #[] w fun e w' => e = .returned (.agg (dArr noneD)) ∧ Ext w w' := by
  go_enter Tryd.func17, Tryd.ntmps17
  go_wp2_with (first
    | (refine wpList_storeB rfl 26 (.tmp 0) (.tmp 1) rfl rfl w.heap.size _ rfl rfl 26 _ (Blk.new w _ _) infoD rfl (dArr_one noneD) ?_; intro w9 hB9 hx9))
  exact bodyPost_ret (v := .agg (dArr noneD)) (results_cell_row rfl _ _ w.heap.size 26 _ (0, 0) _ rfl hB9 Tryd.underlying26 rfl infoD) rfl ⟨rfl, ((Ext.refl w).alloc _).growB hx9 (Nat.le_refl _)⟩

theorem bsz_vals {B : Nat} {fs : List Fd} {name : ByteArray} (h : Bsz B fs) : ∀ v ∈ allS fs name, v.size ≤ B := by
  intro v hv
  obtain ⟨f, hf, rfl⟩ := List.mem_map.1 hv
  exact (h f (List.mem_filter.1 hf).1).2

set_option maxHeartbeats 2000000 in
set_option maxRecDepth 100000 in
theorem dir_Parse (A : Option Addr) (n c : Nat) (fs : List Fd) (w : World) (hf : RdF w A n fs) (hn : n ≤ 1073741824) (hsz : Bsz 1048576 fs) (hg : Gl w) :
    Calls Tryd.prog 14 #[.slice A n c] w fun e w' => e = .returned (.agg (dArr (dirS (allS fs ccN)))) ∧ Ext w w' := by
  go_enter Tryd.func14, Tryd.ntmps14
  have HZ0 := Lib.hid (Blk.new w 28 (dArr zeroD))
  go_wp2_with fail
  refine (dir_None _).mono ?_; rintro e w1 ⟨rfl, hb1⟩
  have hbw1 := ((Ext.refl w).alloc (.cells (dArr zeroD) 28)).trans hb1
  have HZ1 := Lib.hid (HZ0.out.ext hb1)
  have hlt1 := HZ1.out.lt
  go_wp2_with (first
    | (refine wpList_storeB rfl 28 (.tmp 3) (.tmp 10) rfl rfl w1.heap.size _ rfl rfl 28 _ (Blk.new w1 _ _) infoDp rfl (dArr_one noneD) ?_; intro w2 hB2 hx2))
  have hbw2 := (hbw1.alloc (.cells (dArr zeroD) 28)).growB hx2 hbw1.size
  have HZ2 := Lib.hid ((HZ1.out.alloc (.cells (dArr zeroD) 28)).grown hx2 (by simp; omega))
  have hlt2 := hB2.lt
  have HB2 := Lib.hid hB2; clear hB2 hx2 HZ1 HZ0
  refine (field_AllO A n c fs ccN w2 (hf.ext hbw2) hn (by decide) (fun f hff => by have := (hsz f hff).1; omega)).mono ?_; rintro e w3 ⟨A3, n3, c3, rfl, hr3, hc3, hb3, hown3⟩
  have hfar3 := own_far hown3
  have hva := bsz_vals (name := ccN) hsz
  have HZ3 := Lib.hid (HZ2.out.ext hb3)
  have HB3 := Lib.hid (HB2.out.ext hb3)
  have hbw3 := hbw2.trans hb3
  clear hown3 HZ2 HB2
  have hne3 : ∀ a, A3 = some a → a.block ≠ w1.heap.size := fun a ha => by have := hfar3 a ha; omega
  have hn3 : n3 ≤ 1073741824 := by
    have h1 := hr3.lenS
    have h2 := allS_len fs ccN n
    have h3 := hf.lenF
    rw [List.take_of_length_le (by omega)] at h2
    omega
  generalize hV : allS fs ccN = V at *
  have HV := Lib.hid hV; clear hV
  have hl3 := hr3.lenS
  have Hl3 := Lib.hid hl3; clear hl3
  have Hne3 := Lib.hid hne3; clear hne3 hfar3
  go_wp2_with fail
  go_loopw [14] (fun i wr => ∃ k, k ≤ n3 ∧ i = .int .i64 (k : Nat) ∧ Ext w wr ∧ RdS wr A3 n3 V ∧ Blk wr w.heap.size 28 (dArr zeroD) ∧ Blk wr w1.heap.size 28 (dArr (dirS (V.take k)))) (fun i _ => n3 - (intOf i).toNat)
  case atStart => exact ⟨0, Nat.zero_le _, rfl, hbw3, hr3, HZ3.out, HB3.out⟩
  case round =>
    obtain ⟨k, hk, rfl, hbr, hrV, hZr, hBr⟩ := hrel
    have hbs := hbr.size
    have HZr := Lib.hid hZr; have HBr := Lib.hid hBr; clear hZr hBr
    by_cases hlt : k < n3
    · have hlt' : k < V.length := by have := Hl3.out; omega
      obtain ⟨b, o, rfl, hc0⟩ := hrV.atS hlt'
      have hvs := hva V[k] (List.getElem_mem hlt')
      have Hst := Lib.hid (dirS_step hlt')
      generalize V[k] = x at *
      go_wp2_with fail
      refine (syntax_List x _ (by omega)).mono ?_; rintro e w4 ⟨A4, n4, c4, rfl, hr4, hc4, hb4, hown4⟩
      have hbr4 := hbr.trans hb4
      have hrV4 := Rd.ext hrV hb4
      have hlB := HBr.out.lt
      have HZ4 := Lib.hid (HZr.out.ext hb4)
      have HB4 := Lib.hid (HBr.out.ext hb4)
      have Hne4 := Lib.hid (show ∀ a, A4 = some a → a.block ≠ w1.heap.size from fun a ha => by have := own_far hown4 a ha; omega)
      clear hown4 HZr HBr
      cases hp : partsS x 44 with
      | none =>
        have Hno := Lib.hid (Hst.out.trans (stepV_no hp)); clear hp
        rw [show pE none = 2 from rfl, show errV 2 = .iface 88 (.int .i64 2) from rfl]
        have hcl : w4.cell? ⟨w1.heap.size, 0, none⟩ = some (.bool (dirS (V.take k)).b0) := HB4.out.cell 0
        have hfz := HB4.out.frozen 0
        go_wp2_with fail
        go_roundw
        case rel => exact ⟨k + 1, by omega, by go_num, hbr4.setCell (p := ⟨w1.heap.size, 0, none⟩) hbw1.size _, hrV4.growB ((ExtB.refl w1.heap.size w4).set_ 0 _) Hne3.out, HZ4.out.far (by simp; omega) _, by rw [Hno.out]; exact HB4.out.set_ 0 (.bool true)⟩
        case measure => simp [intOf]; omega
      | some P =>
        have Hyes := Lib.hid (Hst.out.trans (stepV_yes hp)); clear hp
        rw [show pE (some P) = 0 from rfl, show errV 0 = .nilIface from rfl]
        have hia := (items_all (s := x)).1
        have hil := (items_all (s := x)).2
        generalize hI : itemsS x = I at *
        clear hI
        have hl4 := hr4.lenS
        have hn4 : n4 ≤ 1048577 := by omega
        have Hl4 := Lib.hid hl4; clear hl4 hil
        go_wp2_with fail
        obtain ⟨wq, hwq⟩ : ∃ wq : World, wq = wr := ⟨_, rfl⟩
        clear hwq
        go_loopw [28] (fun i wi => ∃ j, j ≤ n4 ∧ i = .int .i64 (j : Nat) ∧ Ext w wi ∧ RdS wi (some ⟨b, o, none⟩) n3 V ∧ RdS wi A4 n4 I ∧ Blk wi w.heap.size 28 (dArr zeroD) ∧ Blk wi w1.heap.size 28 (dArr ((I.take j).foldl stepD (dirS (V.take k))))) (fun i _ => n4 - (intOf i).toNat)
        case atStart => exact ⟨0, Nat.zero_le _, rfl, hbr4, hrV4, hr4, HZ4.out, HB4.out⟩
        case round =>
          obtain ⟨j, hj, rfl, hbi, hrVi, hrI, hZi, hBi⟩ := hrel
          have HZi := Lib.hid hZi; have HBi := Lib.hid hBi; clear hZi hBi
          by_cases hjt : j < n4
          · have hjt' : j < I.length := by have := Hl4.out; omega
            obtain ⟨b2, o2, rfl, hd0⟩ := hrI.atS hjt'
            have hys := hia I[j] (List.getElem_mem hjt')
            have Hs2 := Lib.hid (fold_step stepD (dirS (V.take k)) hjt')
            generalize I[j] = y at *
            go_wp2_with fail
            refine (dir_element w1.heap.size _ y _ (by omega) (hg.ext hbi) HBi.out).mono ?_; rintro e w6 ⟨rfl, hB6, hx6⟩
            have hbi6 := hbi.growB hx6 hbw1.size
            have hrV6 := hrVi.growB hx6 Hne3.out
            have hrI6 := hrI.growB hx6 Hne4.out
            have HZ6 := Lib.hid (HZi.out.grown hx6 (by simp; omega))

            go_wp2_with fail
            go_roundw
            case rel => exact ⟨j + 1, by omega, by go_num, hbi6, hrV6, hrI6, HZ6.out, by rw [Hs2.out]; exact hB6⟩
            case measure => simp [intOf]; omega
          · obtain rfl : j = n4 := by omega
            have he : I.take j = I := List.take_of_length_le (by have := Hl4.out; omega)
            rw [he] at HBi
            clear he
            go_wp2_with fail
            go_roundw
            case rel => exact ⟨k + 1, by omega, by go_num, hbi, hrVi, HZi.out, by rw [Hyes.out]; exact HBi.out⟩
            case measure => simp [intOf]; omega
    · obtain rfl : k = n3 := by omega
      have he : V.take k = V := List.take_of_length_le (by have := Hl3.out; omega)
      rw [he] at HBr
      clear he
      go_wp2_with (first
        | (refine wpList_loadB rfl 28 (.tmp 3) rfl w1.heap.size rfl 28 _ HBr.out _ Tryd.underlying28 infoDp ?_)
        | (refine wpList_storeB rfl 28 (.tmp 2) (.tmp 36) rfl rfl w.heap.size _ rfl rfl 28 _ HZr.out infoDp rfl (dArr_one _) ?_; intro w9 hB9 hx9))
      exact bodyPost_ret (v := .agg (dArr (dirS V))) (results_cell_row rfl _ _ w.heap.size 28 _ (0, 0) _ rfl hB9 Tryd.underlying28 rfl infoDp) rfl ⟨congrArg (fun z => Ending.returned (.agg (dArr (dirS z)))) HV.out.symm, hbr.growB hx9 (Nat.le_refl _)⟩

set_option maxHeartbeats 2000000 in
set_option maxRecDepth 100000 in
theorem ref_Parse (A3 : Option Addr) (n3 c : Nat) (V : List ByteArray) (w : World) (hf : RdS w A3 n3 V) (hn3 : n3 ≤ 1073741824) (hva : ∀ v ∈ V, v.size ≤ 1048576) :
    Calls Tryd.prog 16 #[.slice A3 n3 c] w fun e w' => e = .returned (.agg (dArr (dirS V))) ∧ Ext w w' := by
  have hl3 := hf.lenS
  have Hl3 := Lib.hid hl3
  clear hl3
  have Hne3 := Lib.hid (show 0 < n3 → ∀ a, A3 = some a → a.block < w.heap.size from fun h a ha => by
    obtain ⟨b, o, e, hc⟩ := hf.2 (by have := hf.1; omega)
    rw [ha] at e; injection e with e; subst e
    have := hf.1
    exact World.block_lt_of_cell? _ _ (hc 0 _ (List.getElem?_eq_getElem (by omega))))
  go_enter Tryd.func16, Tryd.ntmps16
  have HZ0 := Lib.hid (Blk.new w 26 (dArr zeroD))
  go_wp2_with fail
  refine (ref_None _).mono ?_; rintro e w1 ⟨rfl, hb1⟩
  have hbw1 := ((Ext.refl w).alloc (.cells (dArr zeroD) 26)).trans hb1
  have HZ1 := Lib.hid (HZ0.out.ext hb1)
  have hlt1 := HZ1.out.lt
  go_wp2_with (first
    | (refine wpList_storeB rfl 26 (.tmp 3) (.tmp 10) rfl rfl w1.heap.size _ rfl rfl 26 _ (Blk.new w1 _ _) infoD rfl (dArr_one noneD) ?_; intro w3 hB3 hx3))
  have hbw3 := (hbw1.alloc (.cells (dArr zeroD) 26)).growB hx3 hbw1.size
  have HZ3 := Lib.hid ((HZ1.out.alloc (.cells (dArr zeroD) 26)).grown hx3 (by simp; omega))
  have hr3 := hf.ext hbw3
  have HB3 := Lib.hid hB3; clear hB3 hx3 HZ1 HZ0
  go_wp2_with fail
  go_loopw [13] (fun i wr => ∃ k, k ≤ n3 ∧ i = .int .i64 (k : Nat) ∧ Ext w wr ∧ RdS wr A3 n3 V ∧ Blk wr w.heap.size 26 (dArr zeroD) ∧ Blk wr w1.heap.size 26 (dArr (dirS (V.take k)))) (fun i _ => n3 - (intOf i).toNat)
  case atStart => exact ⟨0, Nat.zero_le _, rfl, hbw3, hr3, HZ3.out, HB3.out⟩
  case round =>
    obtain ⟨k, hk, rfl, hbr, hrV, hZr, hBr⟩ := hrel
    have hbs := hbr.size
    have HZr := Lib.hid hZr; have HBr := Lib.hid hBr; clear hZr hBr
    by_cases hlt : k < n3
    · have hlt' : k < V.length := by have := Hl3.out; omega
      obtain ⟨b, o, rfl, hc0⟩ := hrV.atS hlt'
      have hvs := hva V[k] (List.getElem_mem hlt')
      have Hst := Lib.hid (dirS_step hlt')
      generalize V[k] = x at *
      go_wp2_with fail
      refine (ref_ListO x _ (by omega)).mono ?_; rintro e w4 ⟨A4, n4, c4, rfl, hr4, hc4, hb4, hown4⟩
      have hbr4 := hbr.trans hb4
      have hrV4 := Rd.ext hrV hb4
      have hlB := HBr.out.lt
      have HZ4 := Lib.hid (HZr.out.ext hb4)
      have HB4 := Lib.hid (HBr.out.ext hb4)
      have Hne4 := Lib.hid (show ∀ a, A4 = some a → a.block ≠ w1.heap.size from fun a ha => by have := own_far hown4 a ha; omega)
      clear hown4 HZr HBr
      cases hp : partsS x 44 with
      | none =>
        have Hno := Lib.hid (Hst.out.trans (stepV_no hp)); clear hp
        rw [show (none : Option (List ByteArray)).isSome = false from rfl]
        have hcl : w4.cell? ⟨w1.heap.size, 0, none⟩ = some (.bool (dirS (V.take k)).b0) := HB4.out.cell 0
        have hfz := HB4.out.frozen 0
        go_wp2_with fail
        go_roundw
        case rel => exact ⟨k + 1, by omega, by go_num, hbr4.setCell (p := ⟨w1.heap.size, 0, none⟩) hbw1.size _, hrV4.growB ((ExtB.refl w1.heap.size w4).set_ 0 _) (fun a ha => by have := Hne3.out (by omega) a ha; omega), HZ4.out.far (by simp; omega) _, by rw [Hno.out]; exact HB4.out.set_ 0 (.bool true)⟩
        case measure => simp [intOf]; omega
      | some P =>
        have Hyes := Lib.hid (Hst.out.trans (stepV_yes hp)); clear hp
        rw [show (some P).isSome = true from rfl]
        have hia := (items_all (s := x)).1
        have hil := (items_all (s := x)).2
        generalize hI : itemsS x = I at *
        clear hI
        have hl4 := hr4.lenS
        have hn4 : n4 ≤ 1048577 := by omega
        have Hl4 := Lib.hid hl4; clear hl4 hil
        go_wp2_with fail
        obtain ⟨wq, hwq⟩ : ∃ wq : World, wq = wr := ⟨_, rfl⟩
        clear hwq
        go_loopw [27] (fun i wi => ∃ j, j ≤ n4 ∧ i = .int .i64 (j : Nat) ∧ Ext w wi ∧ RdS wi (some ⟨b, o, none⟩) n3 V ∧ RdS wi A4 n4 I ∧ Blk wi w.heap.size 26 (dArr zeroD) ∧ Blk wi w1.heap.size 26 (dArr ((I.take j).foldl stepD (dirS (V.take k))))) (fun i _ => n4 - (intOf i).toNat)
        case atStart => exact ⟨0, Nat.zero_le _, rfl, hbr4, hrV4, hr4, HZ4.out, HB4.out⟩
        case round =>
          obtain ⟨j, hj, rfl, hbi, hrVi, hrI, hZi, hBi⟩ := hrel
          have HZi := Lib.hid hZi; have HBi := Lib.hid hBi; clear hZi hBi
          by_cases hjt : j < n4
          · have hjt' : j < I.length := by have := Hl4.out; omega
            obtain ⟨b2, o2, rfl, hd0⟩ := hrI.atS hjt'
            have hys := hia I[j] (List.getElem_mem hjt')
            have Hs2 := Lib.hid (fold_step stepD (dirS (V.take k)) hjt')
            generalize I[j] = y at *
            go_wp2_with (first
              | (refine wpList_loadB rfl 26 (.tmp 3) rfl w1.heap.size rfl 26 _ HBi.out _ Tryd.underlying26 infoD ?_))
            refine (ref_with _ y _ (by omega)).mono ?_; rintro e w5 ⟨rfl, hb5⟩
            have hbi5 := hbi.trans hb5
            have HZ5 := Lib.hid (HZi.out.ext hb5)
            have HB5 := Lib.hid (HBi.out.ext hb5)
            go_wp2_with (first
              | (refine wpList_storeB rfl 26 (.tmp 3) (.tmp 33) rfl rfl w1.heap.size _ rfl rfl 26 _ HB5.out infoD rfl (dArr_one _) ?_; intro w6 hB6 hx6))
            have hbi6 := hbi5.growB hx6 hbw1.size
            have hrV6 := (hrVi.ext hb5).growB hx6 (fun a ha => by have := Hne3.out (by omega) a ha; omega)
            have hrI6 := (hrI.ext hb5).growB hx6 Hne4.out
            have HZ6 := Lib.hid (HZ5.out.grown hx6 (by simp; omega))

            go_wp2_with fail
            go_roundw
            case rel => exact ⟨j + 1, by omega, by go_num, hbi6, hrV6, hrI6, HZ6.out, by rw [Hs2.out]; exact hB6⟩
            case measure => simp [intOf]; omega
          · obtain rfl : j = n4 := by omega
            have he : I.take j = I := List.take_of_length_le (by have := Hl4.out; omega)
            rw [he] at HBi
            clear he
            go_wp2_with fail
            go_roundw
            case rel => exact ⟨k + 1, by omega, by go_num, hbi, hrVi, HZi.out, by rw [Hyes.out]; exact HBi.out⟩
            case measure => simp [intOf]; omega
    · obtain rfl : k = n3 := by omega
      have he : V.take k = V := List.take_of_length_le (by have := Hl3.out; omega)
      rw [he] at HBr
      clear he
      go_wp2_with (first
        | (refine wpList_loadB rfl 26 (.tmp 3) rfl w1.heap.size rfl 26 _ HBr.out _ Tryd.underlying26 infoD ?_)
        | (refine wpList_storeB rfl 26 (.tmp 2) (.tmp 36) rfl rfl w.heap.size _ rfl rfl 26 _ HZr.out infoD rfl (dArr_one _) ?_; intro w9 hB9 hx9))
      exact bodyPost_ret (v := .agg (dArr (dirS V))) (results_cell_row rfl _ _ w.heap.size 26 _ (0, 0) _ rfl hB9 Tryd.underlying26 rfl infoD) rfl ⟨rfl, hbr.growB hx9 (Nat.le_refl _)⟩
end Go.Proofs.YtaebbnadmfbdjaaDoor
