
/- The walks of syntax.List, quaysideref01.List, slices.Index and slices.Contains at strings. -/
import Derived.Test.YtaebbnadmfbdjaaDoorParts
set_option linter.unusedSimpArgs false
set_option linter.unusedVariables false
namespace Go.Proofs.YtaebbnadmfbdjaaDoor
open Go.RowKit

def full (x : ByteArray) : Bool := decide (0 < x.size)
/-- The items of a list: its parts, without the empty ones; none where it is no list. -/
def itemsS (s : ByteArray) : List ByteArray := ((partsS s 44).getD []).filter full
theorem full_no {x : ByteArray} (h : x = ⟨#[]⟩) : full x = false := by subst h; rfl
theorem full_yes {x : ByteArray} (h : x ≠ ⟨#[]⟩) : full x = true := by
  unfold full
  rcases Nat.eq_zero_or_pos x.size with h0 | h0
  · exact absurd (ByteArray.size_eq_zero_iff.1 h0) h
  · simpa using h0
theorem isE_yes {x : ByteArray} (h : x = ⟨#[]⟩) : x.toList.isEmpty = true := by rw [ByteArray.toList_eq]; subst h; rfl
theorem isE_no {x : ByteArray} (h : x ≠ ⟨#[]⟩) : x.toList.isEmpty = false := by
  rw [Bool.eq_false_iff, ByteArray.toList_eq]
  intro he
  exact h (bytes_ext (List.isEmpty_iff.1 he))
/-- Is a string among others? -/
def hasS (xs : List ByteArray) (x : ByteArray) : Bool := xs.any fun y => x.toList == y.toList
theorem hasS_iff {xs : List ByteArray} {x : ByteArray} : hasS xs x = true ↔ x ∈ xs := by
  unfold hasS
  rw [List.any_eq_true]
  constructor
  · rintro ⟨y, hy, he⟩; rw [eqS_iff.1 he]; exact hy
  · intro h; exact ⟨x, h, eqS_iff.2 rfl⟩
theorem hasS_no {xs : List ByteArray} {x : ByteArray} (h : x ∉ xs) : hasS xs x = false := by
  rw [Bool.eq_false_iff]; exact fun h' => h (hasS_iff.1 h')
theorem items_all {s : ByteArray} : (∀ x ∈ itemsS s, x.size ≤ s.size) ∧ (itemsS s).length ≤ s.size + 1 :=
  ⟨fun x hx => (parts_all (sep := 44)).1 x (List.mem_filter.1 hx).1, Nat.le_trans (List.length_filter_le _ _) (parts_all (sep := 44)).2⟩

set_option maxHeartbeats 1000000 in
theorem syntax_List (s : ByteArray) (w : World) (hs : s.size ≤ 1048576) :
    Calls Tryd.prog 28 #[.string s] w fun e w' => ∃ A n c, e = .returned (.tuple #[.slice A n c, errV (pE (partsS s 44))]) ∧
      RdS w' A n (itemsS s) ∧ n ≤ c ∧ Ext w w' ∧ w'.ownsRow w.heap.size 9 1 (.slice A n c) n (strCells (itemsS s)) := by
  go_enter Tryd.func28, Tryd.ntmps28
  go_wp2_with fail
  refine (syntax_parts s 44 _ hs).mono ?_; rintro e w1 ⟨A1, n1, c1, rfl, hr1, hc1, hb1⟩
  have hit := (parts_all (s := s) (sep := 44)).2
  have hl1 := hr1.lenS
  have Hi := Lib.hid (show itemsS s = ((partsS s 44).getD []).filter full from rfl)
  cases hp : partsS s 44
  · rw [hp] at hr1 Hi
    rw [show pE none = 2 from rfl, show errV 2 = .iface 88 (.int .i64 2) from rfl]
    have Hp := Lib.hid hp; clear hp
    go_wp2_with fail
    go_ret2
    refine ⟨none, 0, 0, by rw [Hp.out]; rfl, ?_, Nat.le_refl _, hb1, ?_⟩
    · rw [Hi.out]; exact Rd.none_ _ _ _
    · rw [Hi.out]; exact World.ownsRow_nil _ _ _ _
  · rename_i P
    rw [hp] at hr1 Hi hit hl1
    rw [show pE (some P) = 0 from rfl, show errV 0 = .nilIface from rfl]
    simp only [Option.getD_some] at hr1 Hi hit hl1
    have Hp := Lib.hid hp; clear hp
    have Hl := Lib.hid hl1; clear hl1
    have hn1 : n1 ≤ 1048577 := by have := Hl.out; omega
    clear hit
    go_wp2_with fail
    go_loopw [6, 19] (fun v i wr => ∃ k m A' c', k ≤ n1 ∧ i = .int .i64 (k : Nat) ∧ v = .slice A' m c' ∧ wr.ownsRow w1.heap.size 9 1 (.slice A' m c') m (strCells ((P.take k).filter full)) ∧ m ≤ c' ∧ m ≤ k ∧ Ext w1 wr) (fun _ i _ => n1 - (intOf i).toNat)
    case atStart => exact ⟨0, 0, none, 0, Nat.zero_le _, rfl, rfl, World.ownsRow_nil _ _ _ _, Nat.le_refl _, Nat.le_refl _, Ext.refl _⟩
    case round =>
      obtain ⟨k, m, A', c', hk, rfl, rfl, hown, hmc, hmk, hbr⟩ := hrel
      by_cases hlt : k < n1
      · have hlt' : k < P.length := by have := Hl.out; omega
        obtain ⟨b, o, rfl, hc0⟩ := (hr1.ext hbr).atS hlt'
        have Hy := Lib.hid (ft_yes full hlt')
        have Hn := Lib.hid (ft_no full hlt')
        generalize P[k] = x at *
        by_cases hx : x = ⟨#[]⟩
        · have hq := isE_yes hx
          have Hf := Lib.hid (full_no hx); clear hx
          go_wp2_with fail
          go_roundw
          case rel => exact ⟨k + 1, m, A', c', by omega, by go_num, rfl, by rw [Hn.out Hf.out]; exact hown, hmc, by omega, hbr⟩
          case measure => simp [intOf]; omega
        · have hq := isE_no hx
          have Hf := Lib.hid (full_yes hx); clear hx
          go_wp2_with (first
            | (at_builtin; refine wpList_app _ rfl (.tmp 25) (.tmp 27) 22 rfl w1 9 _ 1 16 Tryd.underlying22 infoStr rfl (by decide) _ _ _ rfl (hown.alloc _) _ 1 1 [.string x] rfl (Rd.one _ _ _ (by simp)) (strCells_one [x]) (hbr.alloc _) (by omega) (by decide) ?_; intro A2 c2 w3 hown3 hb3 hle3))
          go_roundw
          case rel => exact ⟨k + 1, m + 1, A2, c2, by omega, by go_num, rfl, by rw [Hy.out Hf.out]; simpa using hown3, hle3, by omega, hb3⟩
          case measure => simp [intOf]; omega
      · obtain rfl : k = n1 := by omega
        have he : P.take k = P := List.take_of_length_le (by have := Hl.out; omega)
        rw [he] at hown
        clear he
        go_wp2_with fail
        go_ret2
        exact ⟨_, _, _, by rw [Hp.out]; rfl, by rw [Hi.out]; exact Rd.of_own hown, hmc, hb1.trans hbr, by rw [Hi.out]; exact own_base hown hb1.size⟩

set_option maxHeartbeats 1000000 in
theorem ref_List (s : ByteArray) (w : World) (hs : s.size ≤ 1048576) :
    Calls Tryd.prog 19 #[.string s] w fun e w' => ∃ A n c, e = .returned (.tuple #[.slice A n c, .bool (partsS s 44).isSome]) ∧
      RdS w' A n (itemsS s) ∧ n ≤ c ∧ Ext w w' := by
  go_enter Tryd.func19, Tryd.ntmps19
  go_wp2_with fail
  refine (ref_Parts s 44 _ hs).mono ?_; rintro e w1 ⟨A1, n1, c1, rfl, hr1, hc1, hb1⟩
  have hit := (parts_all (s := s) (sep := 44)).2
  have hl1 := hr1.lenS
  have Hi := Lib.hid (show itemsS s = ((partsS s 44).getD []).filter full from rfl)
  generalize (partsS s 44).getD [] = P at *
  generalize hok : (partsS s 44).isSome = OK at *
  have Hok := Lib.hid hok; clear hok
  have Hl := Lib.hid hl1; clear hl1
  have hn1 : n1 ≤ 1048577 := by have := Hl.out; omega
  clear hit
  go_wp2_with fail
  go_loopw [6, 15] (fun v i wr => ∃ k m A' c', k ≤ n1 ∧ i = .int .i64 (k : Nat) ∧ v = .slice A' m c' ∧ wr.ownsRow w1.heap.size 9 1 (.slice A' m c') m (strCells ((P.take k).filter full)) ∧ m ≤ c' ∧ m ≤ k ∧ Ext w1 wr) (fun _ i _ => n1 - (intOf i).toNat)
  case atStart => exact ⟨0, 0, none, 0, Nat.zero_le _, rfl, rfl, World.ownsRow_nil _ _ _ _, Nat.le_refl _, Nat.le_refl _, Ext.refl _⟩
  case round =>
    obtain ⟨k, m, A', c', hk, rfl, rfl, hown, hmc, hmk, hbr⟩ := hrel
    by_cases hlt : k < n1
    · have hlt' : k < P.length := by have := Hl.out; omega
      obtain ⟨b, o, rfl, hc0⟩ := (hr1.ext hbr).atS hlt'
      have Hy := Lib.hid (ft_yes full hlt')
      have Hn := Lib.hid (ft_no full hlt')
      generalize P[k] = x at *
      by_cases hx : x = ⟨#[]⟩
      · have hq := isE_yes hx
        have Hf := Lib.hid (full_no hx); clear hx
        go_wp2_with fail
        go_roundw
        case rel => exact ⟨k + 1, m, A', c', by omega, by go_num, rfl, by rw [Hn.out Hf.out]; exact hown, hmc, by omega, hbr⟩
        case measure => simp [intOf]; omega
      · have hq := isE_no hx
        have Hf := Lib.hid (full_yes hx); clear hx
        go_wp2_with (first
          | (at_builtin; refine wpList_app _ rfl (.tmp 23) (.tmp 28) 22 rfl w1 9 _ 1 16 Tryd.underlying22 infoStr rfl (by decide) _ _ _ rfl (hown.alloc _) _ 1 1 [.string x] rfl (Rd.one _ _ _ (by simp)) (strCells_one [x]) (hbr.alloc _) (by omega) (by decide) ?_; intro A2 c2 w3 hown3 hb3 hle3))
        go_roundw
        case rel => exact ⟨k + 1, m + 1, A2, c2, by omega, by go_num, rfl, by rw [Hy.out Hf.out]; simpa using hown3, hle3, by omega, hb3⟩
        case measure => simp [intOf]; omega
    · obtain rfl : k = n1 := by omega
      have he : P.take k = P := List.take_of_length_le (by have := Hl.out; omega)
      rw [he] at hown
      clear he
      go_wp2_with fail
      go_ret2
      exact ⟨_, _, _, by rw [Hok.out]; rfl, by rw [Hi.out]; exact Rd.of_own hown, hmc, hb1.trans hbr⟩

end Go.Proofs.YtaebbnadmfbdjaaDoor
