
/- The walks of quaysideref01.Lower, quaysideref02.Of, quaysideref02.All. -/
import Derived.Test.YteibmmhdlikckaaDoorAll
set_option linter.unusedSimpArgs false
set_option linter.unusedVariables false
namespace Go.Proofs.YteibmmhdlikckaaDoor
open Go.RowKit

theorem conv_one (n : Int) (w : World) : (convert 64 9 (.slice (some ⟨w.heap.size, 0, none⟩) 1 1)).run Tryd.prog (w.alloc (.cells #[.int .u8 n] 5)) =
    .ok (.string ⟨#[UInt8.ofNat n.toNat]⟩) (w.alloc (.cells #[.int .u8 n] 5)) :=
  run_convert_bytes_arg (P := Tryd.prog) _ 64 5 Tryd.underlying64 Tryd.underlying5 w.heap.size 0 1 1 [n] rfl
    (fun i hi => by
      obtain rfl : i = 0 := by omega
      rw [World.cell?_alloc_mark]; rfl) 9 Tryd.underlying9

set_option maxHeartbeats 1000000 in
theorem ref_Lower (s : ByteArray) (w : World) (hs : s.size ≤ 4611686018427387904) :
    Calls Tryd.prog 27 #[.string s] w fun e w' => e = .returned (.string (lowS s)) ∧ Ext w w' := by
  go_enter Tryd.func27, Tryd.ntmps27
  go_wp2_with fail
  go_loopw [3, 8] (fun v i wr => ∃ k, k ≤ s.size ∧ i = .int .i64 (k : Nat) ∧ v = .string (lowTo s k) ∧ Ext w wr) (fun _ i _ => s.size - (intOf i).toNat)
  case atStart => exact ⟨0, Nat.zero_le _, rfl, rfl, Ext.refl _⟩
  case round =>
    obtain ⟨k, hk, rfl, rfl, hbr⟩ := hrel
    by_cases hlt : k < s.size
    · have hsz := lowTo_size s k
      have Hst := Lib.hid (lowTo_step s k hlt)
      have hcv := conv_one
      have Hyes := Lib.hid (lowC_up s[k])
      have Hno := Lib.hid (lowC_no s[k])
      generalize hX : lowTo s k = X at *
      clear hX
      have hl1 : ∀ b : UInt8, (⟨#[b]⟩ : ByteArray).size = 1 := fun b => rfl
      have hsum : ∀ b : UInt8, ∀ w, (Op.stringOp .add X ⟨#[b]⟩).run Tryd.prog w = .ok (.string (X ++ ⟨#[b]⟩)) w := fun b w => run_string_add_sum w X _ (by rw [hl1]; omega)
      clear hl1
      go_wp2
      · have h1 : (65 : Int) ≤ (s[k].toNat : Int) := by assumption
        have h2 : (s[k].toNat : Int) ≤ 90 := by assumption
        go_roundw
        case rel => exact ⟨k + 1, by omega, by go_num, by rw [← Hst.out, Hyes.out h1 h2], hbr.alloc _⟩
        case measure => simp [intOf]; omega
      all_goals
        have hn := Hno.out (by omega)
        go_roundw
        case rel => exact ⟨k + 1, by omega, by go_num, by rw [← Hst.out, hn], hbr.alloc _⟩
        case measure => simp [intOf]; omega
    · obtain rfl : k = s.size := by omega
      go_wp2
      go_ret
      exact ⟨congrArg (fun x => Ending.returned (.string x)) (lowTo_end s), hbr⟩

set_option maxHeartbeats 1000000 in
theorem ref_Of (a b name : ByteArray) (w : World) (hs : a.size ≤ 4611686018427387904) (hn : name.size ≤ 4611686018427387904) :
    Calls Tryd.prog 52 #[.agg #[.string a, .string b], .string name] w fun e w' => e = .returned (.bool (isN name (a, b))) ∧ Ext w w' := by
  go_enter Tryd.func52, Tryd.ntmps52
  go_wp2_with fail
  refine (ref_Lower _ _ hs).mono ?_; rintro e w1 ⟨rfl, hb1⟩
  go_wp2_with fail
  refine (ref_Lower _ _ hn).mono ?_; rintro e w2 ⟨rfl, hb2⟩
  go_wp2_with fail
  go_ret
  exact ⟨rfl, (((Ext.refl _).alloc _).trans hb1).trans hb2⟩

set_option maxHeartbeats 1000000 in
theorem ref_All (A : Option Addr) (n c : Nat) (fs : List Fd) (name : ByteArray) (w : World) (hf : RdF w A n fs)
    (hn : n ≤ 1073741824) (hs : name.size ≤ 4611686018427387904) (hsz : ∀ f ∈ fs, f.1.size ≤ 4611686018427387904) :
    Calls Tryd.prog 35 #[.slice A n c, .string name] w fun e w' => ∃ A' n' c', e = .returned (.slice A' n' c') ∧ RdS w' A' n' (allS fs name) ∧ n' ≤ c' ∧ Ext w w' := by
  go_enter Tryd.func35, Tryd.ntmps35
  go_wp2_with fail
  go_loopw [5, 9] (fun v i wr => ∃ k m A' c', k ≤ n ∧ i = .int .i64 (k : Nat) ∧ v = .slice A' m c' ∧ wr.ownsRow w.heap.size 9 1 (.slice A' m c') m (strCells (allS (fs.take k) name)) ∧ m ≤ c' ∧ Ext w wr) (fun _ i _ => n - (intOf i).toNat)
  case atStart => exact ⟨0, 0, none, 0, Nat.zero_le _, rfl, rfl, World.ownsRow_nil _ _ _ _, Nat.le_refl _, Ext.refl _⟩
  case round =>
    obtain ⟨k, m, A', c', hk, rfl, rfl, hown, hmc, hbr⟩ := hrel
    by_cases hlt : k < n
    · have hl := hf.lenF
      have hlt' : k < fs.length := by omega
      obtain ⟨b, o, rfl, hc0, hc1⟩ := (hf.ext hbr).atF hlt'
      have hbl := World.block_lt_of_cell? _ _ hc1
      have hbd := hsz fs[k] (List.getElem_mem hlt')
      have hm1 := hown.1
      simp only [List.length_map, Nat.mul_one] at hm1
      have hmk := allS_len fs name k
      rw [hm1] at hmk
      have Hl := Lib.hid hl; clear hl
      have Hm := Lib.hid hm1; clear hm1
      have hOf := fun w => ref_Of fs[k].1 fs[k].2 name w hbd hs
      have HOf := Lib.hid hOf; clear hOf
      by_cases hy : isN name fs[k] = true
      · have Hst := Lib.hid (allS_yes hlt' hy)
        have Hy := Lib.hid hy; clear hy
        go_wp2_with fail
        refine (HOf.out _).mono ?_; rintro e w2 ⟨rfl, hb2⟩
        have hc2 := hb2.cells; have hz2 := hb2.size
        have hy : isN name (fs[k].1, fs[k].2) = true := Hy.out
        generalize fs[k].1 = nm at *
        generalize fs[k].2 = vl at *
        go_wp2_with (first
          | (at_builtin; refine wpList_app _ rfl (.tmp 18) (.tmp 24) 53 rfl w 9 _ 1 16 Tryd.underlying53 infoStr rfl (by decide) _ _ _ rfl ((own_ext hown hb2).alloc _) _ 1 1 [.string vl] rfl (Rd.one _ _ _ (by simp)) (strCells_one [vl]) ((hbr.trans hb2).alloc _) (by omega) (by decide) ?_; intro A2 c2 w3 hown3 hb3 hle3))
        go_roundw
        case rel => exact ⟨k + 1, m + 1, A2, c2, by omega, by go_num, rfl, by rw [Hst.out]; simpa using hown3, hle3, hb3⟩
        case measure => simp [intOf]; omega
      · have hy : isN name fs[k] = false := by simpa using hy
        have Hst := Lib.hid (allS_no hlt' hy)
        have Hy := Lib.hid hy; clear hy
        go_wp2_with fail
        refine (HOf.out _).mono ?_; rintro e w2 ⟨rfl, hb2⟩
        have hy : isN name (fs[k].1, fs[k].2) = false := Hy.out
        go_wp2_with fail
        go_roundw
        case rel => exact ⟨k + 1, m, A', c', by omega, by go_num, rfl, by rw [Hst.out]; exact own_ext hown hb2, hmc, hbr.trans hb2⟩
        case measure => simp [intOf]; omega
    · have hk' : k = n := by omega
      have hl := hf.lenF
      go_wp2
      go_ret
      exact ⟨_, _, _, rfl, by rw [List.take_of_length_le (by omega)] at hown; exact Rd.of_own hown, hmc, hbr⟩
end Go.Proofs.YteibmmhdlikckaaDoor
