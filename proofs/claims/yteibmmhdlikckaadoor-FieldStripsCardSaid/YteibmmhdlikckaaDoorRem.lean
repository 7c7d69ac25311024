
/- The walks of field.Remove, quaysideref02.Remove, slices.Clone, slices.Clip, field.Add, quaysideref02.Add. -/
import Derived.Test.YteibmmhdlikckaaDoorLaw2
import Derived.Lib.LazyBuf
set_option linter.unusedSimpArgs false
set_option linter.unusedVariables false
namespace Go.Proofs.YteibmmhdlikckaaDoor
open Go.RowKit

theorem infoRfd : (Tryd.prog.info? 51).map (fun i => (i.zero, i.size, i.bytes)) = some (some (.agg #[.string ⟨#[]⟩, .string ⟨#[]⟩]), 2, 32) := by kernel_rfl

set_option maxHeartbeats 1000000 in
theorem ref_Remove (A : Option Addr) (n c : Nat) (fs : List Fd) (name : ByteArray) (w : World) (hf : RdF w A n fs)
    (hn : n ≤ 1073741824) (hs : name.size ≤ 4611686018427387904) (hsz : Bsz 4611686018427387904 fs) :
    Calls Tryd.prog 37 #[.slice A n c, .string name] w fun e w' => ∃ A' n' c', e = .returned (.slice A' n' c') ∧ RdF w' A' n' (remS fs name) ∧ n' ≤ c' ∧ Ext w w' ∧ w'.ownsRow w.heap.size 51 2 (.slice A' n' c') n' (fldCells (remS fs name)) := by
  have hl := hf.lenF
  go_enter Tryd.func37, Tryd.ntmps37
  have Hl := Lib.hid hl; clear hl
  go_wp2_with fail
  go_loopw [5, 9] (fun v i wr => ∃ k m A' c', k ≤ n ∧ i = .int .i64 (k : Nat) ∧ v = .slice A' m c' ∧ wr.ownsRow w.heap.size 51 2 (.slice A' m c') m (fldCells (remS (fs.take k) name)) ∧ m ≤ c' ∧ Ext w wr) (fun _ i _ => n - (intOf i).toNat)
  case atStart => exact ⟨0, 0, none, 0, Nat.zero_le _, rfl, rfl, World.ownsRow_nil _ _ _ _, Nat.le_refl _, Ext.refl _⟩
  case round =>
    obtain ⟨k, m, A', c', hk, rfl, rfl, hown, hmc, hbr⟩ := hrel
    by_cases hlt : k < n
    · have hlt' : k < fs.length := by have := Hl.out; omega
      obtain ⟨b, o, rfl, hc0, hc1⟩ := (hf.ext hbr).atF hlt'
      have hbl := World.block_lt_of_cell? _ _ hc1
      have hbd := (hsz.at_ hlt').1
      have hm1 := hown.1
      rw [fldCells_len] at hm1
      have hmk := remS_len fs name k
      have hmk2 : m ≤ k := by omega
      have Hm := Lib.hid hm1; clear hm1 hmk
      have hOf := fun w => ref_Of fs[k].1 fs[k].2 name w hbd hs
      have HOf := Lib.hid hOf; clear hOf
      by_cases hy : isN name fs[k] = true
      · have Hst := Lib.hid (remS_drop hlt' hy)
        have Hy := Lib.hid hy; clear hy
        go_wp2_with fail
        refine (HOf.out _).mono ?_; rintro e w2 ⟨rfl, hb2⟩
        have hy : isN name (fs[k].1, fs[k].2) = true := Hy.out
        rw [hy]
        go_wp2_with fail
        go_roundw
        case rel => exact ⟨k + 1, m, A', c', by omega, by go_num, rfl, by rw [Hst.out]; exact own_ext hown hb2, hmc, hbr.trans hb2⟩
        case measure => simp [intOf]; omega
      · have hy : isN name fs[k] = false := by simpa using hy
        have Hst := Lib.hid (remS_keep hlt' hy)
        have Hy := Lib.hid hy; clear hy
        go_wp2_with fail
        refine (HOf.out _).mono ?_; rintro e w2 ⟨rfl, hb2⟩
        have hc2 := hb2.cells; have hz2 := hb2.size
        have hy : isN name (fs[k].1, fs[k].2) = false := Hy.out
        rw [hy]
        generalize hx : fs[k] = x at *
        obtain ⟨nm, vl⟩ := x
        clear hx
        simp only at hy hbd hc0 hc1
        go_wp2_with (first
          | (at_builtin; refine wpList_app _ rfl (.tmp 19) (.tmp 24) 31 rfl w 51 _ 2 32 Tryd.underlying31 infoRfd rfl (by decide) _ _ _ rfl ((own_ext hown hb2).alloc _) _ 1 1 (fldCells [(nm, vl)]) rfl (Rd.two _ _ _ _ (by simp)) (fldCells_one _) ((hbr.trans hb2).alloc _) (by omega) (by decide) ?_; intro A2 c2 w3 hown3 hb3 hle3))
        go_roundw
        case rel => exact ⟨k + 1, m + 1, A2, c2, by omega, by go_num, rfl, by rw [Hst.out, fldCells_app]; exact hown3, hle3, hb3⟩
        case measure => simp [intOf]; omega
    · obtain rfl : k = n := by omega
      have he : fs.take k = fs := List.take_of_length_le (by have := Hl.out; omega)
      rw [he] at hown
      go_wp2
      go_ret
      exact ⟨_, _, _, rfl, Rd.of_own hown, hmc, hbr, hown⟩

end Go.Proofs.YteibmmhdlikckaaDoor
