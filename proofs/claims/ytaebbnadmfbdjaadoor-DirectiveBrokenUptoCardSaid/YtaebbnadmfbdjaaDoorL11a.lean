
/- The walks of the law package's helpers: large, Fields, Plain, Program, awake; equality of directives. -/
import Derived.Test.YtaebbnadmfbdjaaDoorParse
import Derived.Test.YtaebbnadmfbdjaaDoorMem
import Derived.Laws.StructEq
import Derived.KernelRfl
set_option linter.unusedSimpArgs false
set_option linter.unusedVariables false
namespace Go.Proofs.YtaebbnadmfbdjaaDoor
open Go.RowKit

theorem eqlR (d : D) (w : World) : (binOp .eql 26 (.agg (dArr d)) (.agg (dArr d))).run Tryd.prog w = .ok (.bool true) w := by
  have hS : Tryd.prog.underlying 26 = some (.struct (Tryd.prog.fieldsOf 26)) := by kernel_rfl
  have hp : Tryd.prog.stoodInHeld 26 = false := by kernel_rfl
  have u3 := Tryd.underlying3
  have u4 := Tryd.underlying4
  rw [run_eql_struct, show (10000 : Nat) = 9998 + 1 + 1 from rfl, run_equalIn_agg w (9998 + 1) 26 _ _ hS hp]
  simp only [Program.fieldsOf, Tryd.underlying26, dArr]
  go_simp
theorem eqlP (d : D) (w : World) : (binOp .eql 28 (.agg (dArr d)) (.agg (dArr d))).run Tryd.prog w = .ok (.bool true) w := by
  have hS : Tryd.prog.underlying 28 = some (.struct (Tryd.prog.fieldsOf 28)) := by kernel_rfl
  have hp : Tryd.prog.stoodInHeld 28 = false := by kernel_rfl
  have u3 := Tryd.underlying3
  have u4 := Tryd.underlying4
  rw [run_eql_struct, show (10000 : Nat) = 9998 + 1 + 1 from rfl, run_equalIn_agg w (9998 + 1) 28 _ _ hS hp]
  simp only [Program.fieldsOf, Tryd.underlying28, dArr]
  go_simp

/-- Are there more bytes than the statements use? -/
def lgS (ss : List ByteArray) : Bool := decide (3000 < ss.length + totS ss)
def xccN : ByteArray := ⟨#[120, 45, 99, 97, 99, 104, 101, 45, 99, 111, 110, 116, 114, 111, 108]⟩
def nsV : ByteArray := ⟨#[110, 111, 45, 115, 116, 111, 114, 101]⟩
/-- Cache-Control fields with these values, with another field ahead of them. -/
def fldsV (ss : List ByteArray) : List Fd := (xccN, nsV) :: ss.map fun v => (ccN, v)
theorem fldsV_step {ss : List ByteArray} {k : Nat} (h : k < ss.length) : fldsV (ss.take (k + 1)) = fldsV (ss.take k) ++ [(ccN, ss[k])] := by
  unfold fldsV; rw [take_step ss k h, List.map_append]; rfl
theorem fldsV_len (ss : List ByteArray) : (fldsV ss).length = ss.length + 1 := by simp [fldsV]
theorem all_flds (ss : List ByteArray) : allS (fldsV ss) ccN = ss := by
  unfold allS fldsV
  rw [List.filter_cons, if_neg (by decide +kernel)]
  have h : ∀ v : ByteArray, isN ccN (ccN, v) = true := fun v => by unfold isN; exact beq_self_eq_true _
  rw [List.filter_eq_self.2 (fun f hf => by obtain ⟨v, _, rfl⟩ := List.mem_map.1 hf; exact h v), List.map_map]
  exact List.map_id _
theorem bsz_flds {B : Nat} {ss : List ByteArray} (h : ∀ v ∈ ss, v.size ≤ B) (hB : 15 ≤ B) : Bsz B (fldsV ss) := by
  intro f hf
  rcases List.mem_cons.1 hf with rfl | hf
  · exact ⟨Nat.le_trans (show xccN.size ≤ 15 by decide) hB, Nat.le_trans (show nsV.size ≤ 15 by decide) hB⟩
  · obtain ⟨v, hv, rfl⟩ := List.mem_map.1 hf
    exact ⟨Nat.le_trans (show ccN.size ≤ 15 by decide) hB, h v hv⟩
theorem totS_mem {ss : List ByteArray} {v : ByteArray} (h : v ∈ ss) : v.size ≤ totS ss := by
  obtain ⟨i, hi, rfl⟩ := List.getElem_of_mem h
  have := totS_at hi; omega
theorem totS_step {l : List ByteArray} {k : Nat} (h : k < l.length) : totS (l.take (k + 1)) = totS (l.take k) + l[k].size := by
  rw [take_step l k h]; unfold totS; rw [List.map_append, List.sum_append]; simp

theorem gl_of {w : World} (h : w.ShapedOpen Tryd.prog) : Gl w :=
  Go.Proofs.cell_of_shapedOpen_int (zero := #[.int .i64 0]) (t := 3) h (of_decide_eq_true (by kernel_rfl)) (by kernel_rfl) rfl (by kernel_rfl) (by kernel_rfl) Tryd.underlying3

set_option maxHeartbeats 1000000 in
theorem law_large (A : Option Addr) (n c : Nat) (ss : List ByteArray) (w : World) (hr : RdS w A n ss) (hb : ss.length + totS ss ≤ 1048576) :
    Calls Tryd.prog 11 #[.slice A n c] w fun e w' => e = .returned (.bool (lgS ss)) ∧ Ext w w' := by
  have hl := hr.lenS
  have Hl := Lib.hid hl; clear hl
  have hn : n ≤ 1048576 := by have := Hl.out; omega
  go_enter Tryd.func11, Tryd.ntmps11
  go_wp2_with fail
  go_loopw [3, 10] (fun v i wr => ∃ k z, k ≤ n ∧ i = .int .i64 (k : Nat) ∧ v = .int .i64 (z : Nat) ∧ z = n + totS (ss.take k) ∧ Ext w wr) (fun _ i _ => n - (intOf i).toNat)
  case atStart => exact ⟨0, n, Nat.zero_le _, rfl, rfl, by simp [totS], Ext.refl _⟩
  case round =>
    obtain ⟨k, z, hk, rfl, rfl, hz, hbr⟩ := hrel
    have Hz := Lib.hid hz; clear hz
    by_cases hlt : k < n
    · have hlt' : k < ss.length := by have := Hl.out; omega
      obtain ⟨b, o, rfl, hc0⟩ := (hr.ext hbr).atS hlt'
      have hm := totS_at hlt'
      have Hst := Lib.hid (totS_step hlt')
      have hz2 : z ≤ 1048576 := by have := Hz.out; have := Hl.out; omega
      have hx : ss[k].size ≤ 1048576 := by omega
      clear hm
      generalize ss[k] = x at *
      go_wp2_with fail
      go_roundw
      case rel => exact ⟨k + 1, z + x.size, by omega, by go_num, by go_num, by rw [Hst.out, Hz.out]; omega, hbr⟩
      case measure => simp [intOf]; omega
    · obtain rfl : k = n := by omega
      have He := Lib.hid (show lgS ss = decide (3000 < z) by unfold lgS; rw [Hz.out, List.take_of_length_le (by have := Hl.out; omega), Hl.out])
      go_wp2_with fail
      go_ret
      exact ⟨congrArg (fun x => Ending.returned (.bool x)) (by rw [He.out]; (try simp); (try omega)), hbr⟩

set_option maxHeartbeats 1000000 in
theorem law_Fields (A : Option Addr) (n c : Nat) (ss : List ByteArray) (w : World) (hr : RdS w A n ss) (hn : n ≤ 1048576) :
    Calls Tryd.prog 15 #[.slice A n c] w fun e w' => ∃ A' c', e = .returned (.slice A' (n + 1) c') ∧ RdF w' A' (n + 1) (fldsV ss) ∧ n + 1 ≤ c' ∧ Ext w w' := by
  have hl := hr.lenS
  have Hl := Lib.hid hl; clear hl
  have hown0 : (w.alloc (.cells (fldCells [(xccN, nsV)]).toArray 56)).ownsRow w.heap.size 56 2 (.slice (some ⟨w.heap.size, 0, none⟩) 1 1) 1 (fldCells [(xccN, nsV)]) :=
    own_lit w (fldCells [(xccN, nsV)]).toArray 56 rfl 2 1 rfl (by simp [maxLen])
  have Hown0 := Lib.hid hown0; clear hown0
  go_enter Tryd.func15, Tryd.ntmps15
  go_wp2_with fail
  go_loopw [3, 10] (fun v i wr => ∃ k A' c', k ≤ n ∧ i = .int .i64 (k : Nat) ∧ v = .slice A' (k + 1) c' ∧ wr.ownsRow w.heap.size 56 2 (.slice A' (k + 1) c') (k + 1) (fldCells (fldsV (ss.take k))) ∧ k + 1 ≤ c' ∧ Ext w wr) (fun _ i _ => n - (intOf i).toNat)
  case atStart => exact ⟨0, _, 1, Nat.zero_le _, rfl, rfl, Hown0.out, Nat.le_refl _, (Ext.refl _).alloc _⟩
  case round =>
    obtain ⟨k, A', c', hk, rfl, rfl, hown, hmc, hbr⟩ := hrel
    by_cases hlt : k < n
    · have hlt' : k < ss.length := by have := Hl.out; omega
      obtain ⟨b, o, rfl, hc0⟩ := (hr.ext hbr).atS hlt'
      have Hst := Lib.hid (fldsV_step hlt')
      generalize ss[k] = x at *
      go_wp2_with (first
        | (at_builtin; refine wpList_app _ rfl (.tmp 14) (.tmp 17) 31 rfl w 56 _ 2 32 Tryd.underlying31 infoFld rfl (by decide) _ _ _ rfl (hown.alloc _) _ 1 1 (fldCells [(ccN, x)]) rfl (Rd.two _ _ _ _ (by simp)) (fldCells_one _) (hbr.alloc _) (by omega) (by decide) ?_; intro A2 c2 w3 hown3 hb3 hle3))
      go_roundw
      case rel => exact ⟨k + 1, A2, c2, by omega, by go_num, rfl, by rw [Hst.out, fldCells_app]; exact hown3, hle3, hb3⟩
      case measure => simp [intOf]; omega
    · obtain rfl : k = n := by omega
      have he : ss.take k = ss := List.take_of_length_le (by have := Hl.out; omega)
      rw [he] at hown
      clear he
      go_wp2_with fail
      go_ret
      exact ⟨_, _, rfl, Rd.of_own hown, hmc, hbr⟩

set_option maxHeartbeats 1000000 in
set_option maxRecDepth 100000 in
theorem law_Plain (d : D) (w : World) : Calls Tryd.prog 13 #[.agg (dArr d)] w fun e w' => e = .returned (.agg (dArr d)) ∧ Ext w w' := by
  have hB := Lib.hid (Blk.new (w.alloc (.cells (dArr d) 28)) 26 (dArr zeroD))
  rw [World.size_alloc] at hB
  go_enter Tryd.func13, Tryd.ntmps13
  unfold dArr
  go_wp2_with (first
    | (refine wpList_storeB rfl 26 (.tmp 2) (.tmp 27) rfl rfl (w.heap.size + 1) _ rfl rfl 26 _ hB.out infoD rfl (dArr_one d) ?_; intro w9 hB9 hx9))
  exact bodyPost_ret (v := .agg (dArr d)) (results_cell_row rfl _ _ (w.heap.size + 1) 26 _ (0, 0) _ rfl hB9 Tryd.underlying26 rfl infoD) rfl ⟨rfl, (((Ext.refl w).alloc _).alloc _).growB hx9 (by omega)⟩
end Go.Proofs.YtaebbnadmfbdjaaDoor
