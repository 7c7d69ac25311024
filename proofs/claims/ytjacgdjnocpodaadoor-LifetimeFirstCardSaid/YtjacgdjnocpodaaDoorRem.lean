
/- The walks of field.Remove, quaysideref02.Remove, slices.Clone, slices.Clip, field.Add, quaysideref02.Add. -/
import Derived.Test.YtjacgdjnocpodaaDoorLaw2
import Derived.Lib.LazyBuf
namespace Go.Proofs.YtjacgdjnocpodaaDoor
open Go.RowKit

theorem infoRfd : (Tryd.prog.info? 56).map (fun i => (i.zero, i.size, i.bytes)) = some (some (.agg #[.string ⟨#[]⟩, .string ⟨#[]⟩]), 2, 32) := by kernel_rfl

set_option maxHeartbeats 1000000 in
theorem field_Remove (A : Option Addr) (n c : Nat) (fs : List Fd) (name : ByteArray) (w : World) (hf : RdF w A n fs)
    (hn : n ≤ 1073741824) (hs : name.size ≤ 9223372036854775807) (hsz : Bsz 4611686018427387904 fs) :
    Calls Tryd.prog 17 #[.slice A n c, .string name] w fun e w' => ∃ A' n' c', e = .returned (.slice A' n' c') ∧ RdF w' A' n' (remS fs name) ∧ n' ≤ c' ∧ Ext w w' ∧ w'.ownsRow w.heap.size 57 2 (.slice A' n' c') n' (fldCells (remS fs name)) := by
  have hl := hf.lenF
  go_enter Tryd.func17, Tryd.ntmps17
  have Hl := Lib.hid hl; clear hl
  go_wp2_with fail
  refine (field_lower _ _ (by assumption)).mono ?_; rintro e w1 ⟨rfl, hb1⟩
  go_wp2_with fail
  go_loopw [5, 12] (fun v i wr => ∃ k m A' c', k ≤ n ∧ i = .int .i64 (k : Nat) ∧ v = .slice A' m c' ∧ wr.ownsRow w1.heap.size 57 2 (.slice A' m c') m (fldCells (remS (fs.take k) name)) ∧ m ≤ c' ∧ Ext w1 wr) (fun _ i _ => n - (intOf i).toNat)
  case atStart => exact ⟨0, 0, none, 0, Nat.zero_le _, rfl, rfl, World.ownsRow_nil _ _ _ _, Nat.le_refl _, Ext.refl _⟩
  case round =>
    obtain ⟨k, m, A', c', hk, rfl, rfl, hown, hmc, hbr⟩ := hrel
    by_cases hlt : k < n
    · have hlt' : k < fs.length := by have := Hl.out; omega
      obtain ⟨b, o, rfl, hc0, hc1⟩ := (hf.ext (hb1.trans hbr)).atF hlt'
      have hbd := (hsz.at_ hlt').1
      have hm1 := hown.1
      rw [fldCells_len] at hm1
      have hmk := remS_len fs name k
      have hmk2 : m ≤ k := by omega
      have Hm := Lib.hid hm1; clear hm1 hmk
      by_cases hy : isN name fs[k] = true
      · have Hst := Lib.hid (remS_drop hlt' hy)
        unfold isN at hy
        have hy2 : ((lowS fs[k].1).toList != (lowS name).toList) = false := by simp [bne, hy]
        generalize fs[k].1 = nm at *
        generalize fs[k].2 = vl at *
        go_wp2_with (first
          | (go_at_call 31; refine (field_lower _ _ (by omega)).mono ?_; rintro e w2 ⟨rfl, hb2⟩; have hc2 := hb2.cells; have hz2 := hb2.size))
        go_roundw
        case rel => exact ⟨k + 1, m, A', c', by omega, by go_num, rfl, by rw [Hst.out]; exact own_ext (hown.alloc _) hb2, hmc, (hbr.alloc _).trans hb2⟩
        case measure => simp [intOf]; omega
      · have hy : isN name fs[k] = false := by simpa using hy
        have Hst := Lib.hid (remS_keep hlt' hy)
        unfold isN at hy
        have hy2 : ((lowS fs[k].1).toList != (lowS name).toList) = true := by simp [bne, hy]
        generalize hx : fs[k] = x at *
        obtain ⟨nm, vl⟩ := x
        clear hx
        simp only at hy hy2 hbd hc0 hc1
        go_wp2_with (first
          | (go_at_call 31; refine (field_lower _ _ (by omega)).mono ?_; rintro e w2 ⟨rfl, hb2⟩; have hc2 := hb2.cells; have hz2 := hb2.size)
          | (at_builtin; refine wpList_app _ rfl (.tmp 21) (.tmp 23) 28 rfl w1 57 _ 2 32 Tryd.underlying28 infoFld rfl (by decide) _ _ _ rfl ((own_ext (hown.alloc _) hb2).alloc _) _ 1 1 (fldCells [(nm, vl)]) rfl (Rd.two _ _ _ _ (by simp)) (fldCells_one _) (((hbr.alloc _).trans hb2).alloc _) (by omega) (by decide) ?_; intro A2 c2 w3 hown3 hb3 hle3))
        go_roundw
        case rel => exact ⟨k + 1, m + 1, A2, c2, by omega, by go_num, rfl, by rw [Hst.out, fldCells_app]; exact hown3, hle3, hb3⟩
        case measure => simp [intOf]; omega
    · obtain rfl : k = n := by omega
      have he : fs.take k = fs := List.take_of_length_le (by have := Hl.out; omega)
      rw [he] at hown
      go_wp2
      go_ret
      exact ⟨_, _, _, rfl, Rd.of_own hown, hmc, hb1.trans hbr, own_base hown hb1.size⟩

set_option maxHeartbeats 1000000 in
theorem flds_Clone (A : Option Addr) (n c : Nat) (fs : List Fd) (w : World) (hf : RdF w A n fs) (hn : n ≤ 1073741824) :
    Calls Tryd.prog 33 #[.slice A n c] w fun e w' => ∃ A' c', e = .returned (.slice A' n c') ∧ RdF w' A' n fs ∧ n ≤ c' ∧ Ext w w' ∧ (A' = none → n = 0) := by
  have heq := fun w => Lib.run_eql_slice_nil (P := Tryd.prog) w 28 57 A n c 0 0 Tryd.underlying28
  have hnil : A = none → n = 0 := fun h => by
    rcases Nat.eq_zero_or_pos n with h0 | h0
    · exact h0
    · obtain ⟨b, o, e, _⟩ := hf.2 (by have := hf.1; omega)
      rw [h] at e; cases e
  cases A with
  | none =>
    obtain rfl := hnil rfl
    go_enter Tryd.func33, Tryd.ntmps33
    simp only [Option.isNone] at heq
    go_wp2
    go_ret
    exact ⟨none, ⟨0, rfl⟩, hf, Ext.refl _⟩
  | some a =>
    clear hnil
    go_enter Tryd.func33, Tryd.ntmps33
    simp only [Option.isNone] at heq
    have hown : (w.alloc (.cells #[] 57)).ownsRow w.heap.size 57 2 (.slice (some ⟨w.heap.size, 0, none⟩) 0 0) 0 [] := World.ownsRow_made w #[] 0 (Nat.le_refl _) (by simp [maxLen]) rfl
    have hone := fldCells_one fs
    go_wp2_with (first
      | (at_builtin; refine wpList_app _ rfl (.tmp 5) (.tmp 6) 28 rfl w 57 _ 2 32 Tryd.underlying28 infoFld rfl (by decide) _ _ _ rfl hown _ n c (fldCells fs) rfl (hf.alloc _) hone ((Ext.refl w).alloc _) (by omega) (by decide) ?_; intro A2 c2 w3 hown3 hb3 hle3))
    go_ret
    rw [Nat.zero_add, List.nil_append] at hown3
    rw [Nat.zero_add] at hle3
    refine ⟨A2, c2, by simp, Rd.of_own hown3, hle3, hb3, fun h => ?_⟩
    subst h
    rcases hown3.2 with ⟨_, h0⟩ | ⟨g, cap, cur, hv, _⟩
    · exact h0
    · cases hv

set_option maxHeartbeats 1000000 in
theorem flds_Clip (A : Option Addr) (n c : Nat) (w : World) (hc : n ≤ c) :
    Calls Tryd.prog 32 #[.slice A n c] w fun e w' => e = .returned (.slice A n n) ∧ w = w' := by
  go_enter Tryd.func32, Tryd.ntmps32
  go_wp2
  go_ret
  exact ⟨rfl, rfl⟩

set_option maxHeartbeats 1000000 in
theorem field_Add (A : Option Addr) (n c : Nat) (fs : List Fd) (name value : ByteArray) (w : World) (hf : RdF w A n fs) (hn : n ≤ 1073741824) (hs : name.size ≤ 9223372036854775807) :
    Calls Tryd.prog 18 #[.slice A n c, .string name, .string value] w fun e w' => ∃ A' c', e = .returned (.slice A' (n + 1) c') ∧ RdF w' A' (n + 1) (fs ++ [(lowS name, value)]) ∧ n + 1 ≤ c' ∧ Ext w w' ∧ w'.ownsRow w.heap.size 57 2 (.slice A' (n + 1) c') (n + 1) (fldCells (fs ++ [(lowS name, value)])) := by
  go_enter Tryd.func18, Tryd.ntmps18
  go_wp2_with fail
  refine (flds_Clone _ _ _ _ _ hf hn).mono ?_; rintro e w1 ⟨A1, c1, rfl, hf1, hc1, hb1, hnil⟩
  go_wp2_with fail
  refine (flds_Clip _ _ _ _ hc1).mono ?_; rintro e w2 ⟨rfl, rfl⟩
  go_wp2_with fail
  refine (field_lower _ _ (by omega)).mono ?_; rintro e w2 ⟨rfl, hb2⟩
  have hf2 := hf1.ext hb2
  have hnil2 : A1 = none → n = 0 ∧ n = 0 := fun h => ⟨hnil h, hnil h⟩
  have Hnil := Lib.hid hnil2
  clear hnil hnil2
  have hone := fldCells_one [(lowS name, value)]
  go_wp2_with (first
    | (at_builtin; refine wpList_appF _ rfl (.tmp 9) (.tmp 14) 28 rfl w.heap.size 57 _ 2 32 Tryd.underlying28 infoFld rfl (by decide) A1 n n (fldCells fs) rfl (hf2.alloc _) Hnil.out _ 1 1 (fldCells [(lowS name, value)]) rfl (Rd.two _ _ _ _ (by simp)) hone (by omega) (by omega) (((hb1.trans hb2).alloc _).size) (by omega) (by decide) ?_; intro A2 c2 w3 hown3 hb3 hle3))
  go_ret
  rw [← fldCells_app] at hown3
  exact ⟨A2, c2, rfl, Rd.of_own hown3, hle3, ((hb1.trans hb2).alloc _).trans hb3, hown3⟩

end Go.Proofs.YtjacgdjnocpodaaDoor
