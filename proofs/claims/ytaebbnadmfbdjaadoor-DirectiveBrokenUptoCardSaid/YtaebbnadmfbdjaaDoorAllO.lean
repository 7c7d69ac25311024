
/- The walks of field.All and quaysideref01.List once more: the rows that they return are the calls' own. -/
import Derived.Test.YtaebbnadmfbdjaaDoorList
set_option linter.unusedSimpArgs false
set_option linter.unusedVariables false
namespace Go.Proofs.YtaebbnadmfbdjaaDoor
open Go.RowKit

set_option maxHeartbeats 1000000 in
theorem field_AllO (A : Option Addr) (n c : Nat) (fs : List Fd) (name : ByteArray) (w : World) (hf : RdF w A n fs)
    (hn : n ≤ 1073741824) (hs : name.size ≤ 9223372036854775807) (hsz : ∀ f ∈ fs, f.1.size ≤ 9223372036854775807) :
    Calls Tryd.prog 27 #[.slice A n c, .string name] w fun e w' => ∃ A' n' c', e = .returned (.slice A' n' c') ∧ RdS w' A' n' (allS fs name) ∧ n' ≤ c' ∧ Ext w w' ∧ w'.ownsRow w.heap.size 9 1 (.slice A' n' c') n' (strCells (allS fs name)) := by
  go_enter Tryd.func27, Tryd.ntmps27
  go_wp2_with (go_at_call 39; refine (field_lower _ _ (by assumption)).mono ?_; rintro e w1 ⟨rfl, hb1⟩)
  go_loopw [5, 12] (fun v i wr => ∃ k m A' c', k ≤ n ∧ i = .int .i64 (k : Nat) ∧ v = .slice A' m c' ∧ wr.ownsRow w1.heap.size 9 1 (.slice A' m c') m (strCells (allS (fs.take k) name)) ∧ m ≤ c' ∧ Ext w1 wr) (fun _ i _ => n - (intOf i).toNat)
  case atStart => exact ⟨0, 0, none, 0, Nat.zero_le _, rfl, rfl, World.ownsRow_nil _ _ _ _, Nat.le_refl _, Ext.refl _⟩
  case round =>
    obtain ⟨k, m, A', c', hk, rfl, rfl, hown, hmc, hbr⟩ := hrel
    by_cases hlt : k < n
    · have hl := hf.lenF
      have hlt' : k < fs.length := by omega
      obtain ⟨b, o, rfl, hc0, hc1⟩ := (hf.ext (hb1.trans hbr)).atF hlt'
      have hbd := hsz fs[k] (List.getElem_mem hlt')
      have hm1 := hown.1
      simp only [List.length_map, Nat.mul_one] at hm1
      have hmk := allS_len fs name k
      rw [hm1] at hmk
      have Hl := Lib.hid hl; clear hl
      have Hm := Lib.hid hm1; clear hm1
      by_cases hy : isN name fs[k] = true
      · have Hst := Lib.hid (allS_yes hlt' hy)
        unfold isN at hy
        generalize fs[k].1 = nm at *
        generalize fs[k].2 = vl at *
        go_wp2_with (first
          | (go_at_call 39; refine (field_lower _ _ (by assumption)).mono ?_; rintro e w2 ⟨rfl, hb2⟩; have hc2 := hb2.cells; have hz2 := hb2.size)
          | (at_builtin; refine wpList_app _ rfl (.tmp 21) (.tmp 24) 22 rfl w1 9 _ 1 16 Tryd.underlying22 infoStr rfl (by decide) _ _ _ rfl ((own_ext (hown.alloc _) hb2).alloc _) _ 1 1 [.string vl] rfl (Rd.one _ _ _ (by simp)) (strCells_one [vl]) (((hbr.alloc _).trans hb2).alloc _) (by omega) (by decide) ?_; intro A2 c2 w3 hown3 hb3 hle3))
        go_roundw
        case rel => exact ⟨k + 1, m + 1, A2, c2, by omega, by go_num, rfl, by rw [Hst.out]; simpa using hown3, hle3, hb3⟩
        case measure => simp [intOf]; omega
      · have hy : isN name fs[k] = false := by simpa using hy
        have Hst := Lib.hid (allS_no hlt' hy)
        unfold isN at hy
        generalize fs[k].1 = nm at *
        generalize fs[k].2 = vl at *
        go_wp2_with (first
          | (go_at_call 39; refine (field_lower _ _ (by assumption)).mono ?_; rintro e w2 ⟨rfl, hb2⟩; have hc2 := hb2.cells; have hz2 := hb2.size))
        go_roundw
        case rel => exact ⟨k + 1, m, A', c', by omega, by go_num, rfl, by rw [Hst.out]; exact own_ext (hown.alloc _) hb2, hmc, (hbr.alloc _).trans hb2⟩
        case measure => simp [intOf]; omega
    · have hk' : k = n := by omega
      have hl := hf.lenF
      go_wp2
      go_ret
      rw [List.take_of_length_le (by omega)] at hown
      exact ⟨_, _, _, rfl, Rd.of_own hown, hmc, hb1.trans hbr, own_base hown hb1.size⟩
set_option maxHeartbeats 1000000 in
theorem ref_ListO (s : ByteArray) (w : World) (hs : s.size ≤ 1048576) :
    Calls Tryd.prog 19 #[.string s] w fun e w' => ∃ A n c, e = .returned (.tuple #[.slice A n c, .bool (partsS s 44).isSome]) ∧
      RdS w' A n (itemsS s) ∧ n ≤ c ∧ Ext w w' ∧ w'.ownsRow w.heap.size 9 1 (.slice A n c) n (strCells (itemsS s)) := by
  go_enter Tryd.func19, Tryd.ntmps19
  go_wp2_with fail
  refine (ref_Parts s 44 _ hs).mono ?_; rintro e w1 ⟨A1, n1, c1, rfl, hr1, hc1, hb1⟩
  have hit := (parts_all (s := s) (sep := 44)).2
  have hl1 := hr1.lenS
  have Hi := Lib.hid (show itemsS s = ((partsS s 44).getD []).filter full from rfl)
  generalize (partsS s 44).getD [] = P at *
  generalize hok : (partsS s 44).isSome = OK at *
  have Hok := Lib.hid hok; clear hok
  have Hl := Lib.hid hl1; clear hl1
  have hn1 : n1 ≤ 1048577 := by have := Hl.out; omega
  clear hit
  go_wp2_with fail
  go_loopw [6, 15] (fun v i wr => ∃ k m A' c', k ≤ n1 ∧ i = .int .i64 (k : Nat) ∧ v = .slice A' m c' ∧ wr.ownsRow w1.heap.size 9 1 (.slice A' m c') m (strCells ((P.take k).filter full)) ∧ m ≤ c' ∧ m ≤ k ∧ Ext w1 wr) (fun _ i _ => n1 - (intOf i).toNat)
  case atStart => exact ⟨0, 0, none, 0, Nat.zero_le _, rfl, rfl, World.ownsRow_nil _ _ _ _, Nat.le_refl _, Nat.le_refl _, Ext.refl _⟩
  case round =>
    obtain ⟨k, m, A', c', hk, rfl, rfl, hown, hmc, hmk, hbr⟩ := hrel
    by_cases hlt : k < n1
    · have hlt' : k < P.length := by have := Hl.out; omega
      obtain ⟨b, o, rfl, hc0⟩ := (hr1.ext hbr).atS hlt'
      have Hy := Lib.hid (ft_yes full hlt')
      have Hn := Lib.hid (ft_no full hlt')
      generalize P[k] = x at *
      by_cases hx : x = ⟨#[]⟩
      · have hq := isE_yes hx
        have Hf := Lib.hid (full_no hx); clear hx
        go_wp2_with fail
        go_roundw
        case rel => exact ⟨k + 1, m, A', c', by omega, by go_num, rfl, by rw [Hn.out Hf.out]; exact hown, hmc, by omega, hbr⟩
        case measure => simp [intOf]; omega
      · have hq := isE_no hx
        have Hf := Lib.hid (full_yes hx); clear hx
        go_wp2_with (first
          | (at_builtin; refine wpList_app _ rfl (.tmp 23) (.tmp 28) 22 rfl w1 9 _ 1 16 Tryd.underlying22 infoStr rfl (by decide) _ _ _ rfl (hown.alloc _) _ 1 1 [.string x] rfl (Rd.one _ _ _ (by simp)) (strCells_one [x]) (hbr.alloc _) (by omega) (by decide) ?_; intro A2 c2 w3 hown3 hb3 hle3))
        go_roundw
        case rel => exact ⟨k + 1, m + 1, A2, c2, by omega, by go_num, rfl, by rw [Hy.out Hf.out]; simpa using hown3, hle3, by omega, hb3⟩
        case measure => simp [intOf]; omega
    · obtain rfl : k = n1 := by omega
      have he : P.take k = P := List.take_of_length_le (by have := Hl.out; omega)
      rw [he] at hown
      clear he
      go_wp2_with fail
      go_ret2
      exact ⟨_, _, _, by rw [Hok.out]; rfl, by rw [Hi.out]; exact Rd.of_own hown, hmc, hb1.trans hbr, by rw [Hi.out]; exact own_base hown hb1.size⟩

end Go.Proofs.YtaebbnadmfbdjaaDoor
