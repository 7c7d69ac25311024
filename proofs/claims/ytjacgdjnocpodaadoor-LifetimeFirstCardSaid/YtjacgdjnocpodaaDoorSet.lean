
/- The walks of field.Set, quaysideref02.Set. -/
import Derived.Test.YtjacgdjnocpodaaDoorRem
import Derived.Deep.LoopGhost
import Derived.Deep.DeepCutAuto
import Derived.Deep.RegionHeld3
namespace Go.Proofs.YtjacgdjnocpodaaDoor
open Go.RowKit

set_option maxHeartbeats 2000000 in
theorem field_Set (A : Option Addr) (n c : Nat) (fs : List Fd) (name value : ByteArray) (w : World) (hf : RdF w A n fs)
    (hn : n ≤ 1073741824) (hs : name.size ≤ 9223372036854775807) (hsz : Bsz 4611686018427387904 fs) :
    Calls Tryd.prog 20 #[.slice A n c, .string name, .string value] w fun e w' => ∃ A' n' c', e = .returned (.slice A' n' c') ∧ RdF w' A' n' (setS name value fs) ∧ n' ≤ c' ∧ Ext w w' ∧ w'.ownsRow w.heap.size 57 2 (.slice A' n' c') n' (fldCells (setS name value fs)) := by
  have hl := hf.lenF
  go_enter Tryd.func20, Tryd.ntmps20
  have Hl := Lib.hid hl; clear hl
  go_wp2_with fail
  refine (field_lower _ _ (by assumption)).mono ?_; rintro e w1 ⟨rfl, hb1⟩
  go_wp2_with fail
  go_loopg [7, 8, 15] n (fun g v d i wr => ∃ k m A' c', k ≤ n ∧ g = n - k ∧ i = .int .i64 (k : Nat) ∧ d = .bool (hasTo fs name k) ∧ v = .slice A' m c' ∧ wr.ownsRow w1.heap.size 57 2 (.slice A' m c') m (fldCells (setTo fs name value k)) ∧ m ≤ c' ∧ Ext w1 wr)
  case atStart => exact ⟨0, 0, none, 0, Nat.zero_le _, rfl, rfl, rfl, rfl, World.ownsRow_nil _ _ _ _, Nat.le_refl _, Ext.refl _⟩
  case round =>
    obtain ⟨k, m, A', c', hk, rfl, rfl, rfl, rfl, hown, hmc, hbr⟩ := hrel
    have hm1 := hown.1
    rw [fldCells_len] at hm1
    have hmk := setTo_len fs name value k
    have hmk2 : m ≤ k + 1 := by omega
    have Hm := Lib.hid hm1; clear hm1 hmk
    by_cases hlt : k < n
    · have hlt' : k < fs.length := by have := Hl.out; omega
      obtain ⟨b, o, rfl, hc0, hc1⟩ := (hf.ext (hb1.trans hbr)).atF hlt'
      have hbd := (hsz.at_ hlt').1
      have Hhas := Lib.hid (hasTo_step (name := name) hlt')
      by_cases hy : isN name fs[k] = true
      · have HY := Lib.hid hy
        unfold isN at hy
        have hy2 : ((lowS fs[k].1).toList != (lowS name).toList) = false := by simp [bne, hy]
        cases hd : hasTo fs name k
        · have Hst := Lib.hid (setTo_new (value := value) hlt' HY.out hd)
          have Hd := Lib.hid hd; clear hd
          generalize hx : fs[k] = x at *
          obtain ⟨nm, vl⟩ := x
          clear hx
          simp only at hy hy2 hbd hc0 hc1
          go_wp2_with (first
            | (go_at_call 31; refine (field_lower _ _ (by omega)).mono ?_; rintro e w2 ⟨rfl, hb2⟩; have hc2 := hb2.cells; have hz2 := hb2.size)
            | (at_builtin; refine wpList_app _ rfl (.tmp 32) (.tmp 36) 28 rfl w1 57 _ 2 32 Tryd.underlying28 infoFld rfl (by decide) _ _ _ rfl ((own_ext (hown.alloc _) hb2).alloc _) _ 1 1 (fldCells [(lowS name, value)]) rfl (Rd.two _ _ _ _ (by simp)) (fldCells_one _) (((hbr.alloc _).trans hb2).alloc _) (by omega) (by decide) ?_; intro A2 c2 w3 hown3 hb3 hle3))
          go_roundg (n - (k + 1))
          case measure => omega
          case rel => exact ⟨k + 1, m + 1, A2, c2, by omega, rfl, by go_num, by rw [Hhas.out, HY.out, Bool.or_true], rfl, by rw [Hst.out, fldCells_app]; exact hown3, hle3, hb3⟩
        · have Hst := Lib.hid (setTo_skip (value := value) hlt' HY.out hd)
          have Hd := Lib.hid hd; clear hd
          generalize hx : fs[k] = x at *
          obtain ⟨nm, vl⟩ := x
          clear hx
          simp only at hy hy2 hbd hc0 hc1
          go_wp2_with (first
            | (go_at_call 31; refine (field_lower _ _ (by omega)).mono ?_; rintro e w2 ⟨rfl, hb2⟩; have hc2 := hb2.cells; have hz2 := hb2.size))
          go_roundg (n - (k + 1))
          case measure => omega
          case rel => exact ⟨k + 1, m, A', c', by omega, rfl, by go_num, by rw [Hhas.out, HY.out, Bool.or_true], rfl, by rw [Hst.out]; exact own_ext (hown.alloc _) hb2, hmc, (hbr.alloc _).trans hb2⟩
      · have hy : isN name fs[k] = false := by simpa using hy
        have HY := Lib.hid hy
        have Hst := Lib.hid (setTo_keep (value := value) hlt' hy)
        unfold isN at hy
        have hy2 : ((lowS fs[k].1).toList != (lowS name).toList) = true := by simp [bne, hy]
        generalize hx : fs[k] = x at *
        obtain ⟨nm, vl⟩ := x
        clear hx
        simp only at hy hy2 hbd hc0 hc1
        generalize hhd : hasTo fs name k = hd at *
        have Hhd := Lib.hid hhd; clear hhd
        go_wp2_with (first
          | (go_at_call 31; refine (field_lower _ _ (by omega)).mono ?_; rintro e w2 ⟨rfl, hb2⟩; have hc2 := hb2.cells; have hz2 := hb2.size)
          | (at_builtin; refine wpList_app _ rfl (.tmp 25) (.tmp 27) 28 rfl w1 57 _ 2 32 Tryd.underlying28 infoFld rfl (by decide) _ _ _ rfl ((own_ext (hown.alloc _) hb2).alloc _) _ 1 1 (fldCells [(nm, vl)]) rfl (Rd.two _ _ _ _ (by simp)) (fldCells_one _) (((hbr.alloc _).trans hb2).alloc _) (by omega) (by decide) ?_; intro A2 c2 w3 hown3 hb3 hle3))
        go_roundg (n - (k + 1))
        case measure => omega
        case rel => exact ⟨k + 1, m + 1, A2, c2, by omega, rfl, by go_num, by rw [Hhas.out, HY.out, Bool.or_false], rfl, by rw [Hst.out, fldCells_app]; exact hown3, hle3, hb3⟩
    · obtain rfl : k = n := by omega
      have hl := Hl.out
      cases hd : hasTo fs name k
      · have Hst := Lib.hid (setTo_end_no (fs := fs) (name := name) (value := value) (by rw [hl]; exact hd))
        have hone := fldCells_one [(lowS name, value)]
        clear hl
        go_wp2_with (first
          | (at_builtin; refine wpList_app _ rfl (.tmp 41) (.tmp 45) 28 rfl w1 57 _ 2 32 Tryd.underlying28 infoFld rfl (by decide) _ _ _ rfl (hown.alloc _) _ 1 1 (fldCells [(lowS name, value)]) rfl (Rd.two _ _ _ _ (by simp)) hone (hbr.alloc _) (by omega) (by decide) ?_; intro A2 c2 w3 hown3 hb3 hle3))
        go_ret
        rw [← fldCells_app, ← Hl.out, Hst.out] at hown3
        exact ⟨_, _, _, rfl, Rd.of_own hown3, hle3, hb1.trans hb3, own_base hown3 hb1.size⟩
      · have Hst := Lib.hid (setTo_end_yes (fs := fs) (name := name) (value := value) (by rw [hl]; exact hd))
        clear hl
        go_wp2
        go_ret
        rw [← Hl.out, Hst.out] at hown
        exact ⟨_, _, _, rfl, Rd.of_own hown, hmc, hb1.trans hbr, own_base hown hb1.size⟩
end Go.Proofs.YtjacgdjnocpodaaDoor
