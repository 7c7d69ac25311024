
/- The walks of field.Get and quaysideref02.Get. -/
import Derived.Test.YtghaopeijncgaaaDoorLaw1
import Derived.Test.YtghaopeijncgaaaDoorShelf
namespace Go.Proofs.YtghaopeijncgaaaDoor
open Go.RowKit

theorem str_Join (A : Option Addr) (n c : Nat) (ss : List ByteArray) (w : World) (h : RdS w A n ss) (hc : n ≤ c) (hT : totS ss + 2 * n ≤ 70368744177664) :
    Calls Tryd.prog 63 #[.slice A n c, .string ⟨#[44, 32]⟩] w fun e w' => e = .returned (.string (joinS ss)) ∧ Ext w w' := by
  have hl := h.lenS
  by_cases h0 : 0 < n
  · obtain ⟨b, o, rfl, hcell⟩ := h.2 (by simp; omega)
    have hbk : b < w.heap.size := World.block_lt_of_cell? w _ (hcell 0 (.string (ss[0]'(by omega))) (by simp [List.getElem?_eq_getElem (show 0 < ss.length by omega)]))
    have hj := joinL_len ss
    subst hl
    exact (Tryd.strings_Join b o c ss ⟨#[44, 32]⟩ w (fun j x hx => hcell j _ (by simp [hx])) hbk (by omega) hc (by simp only []; omega)).mono fun e w' hh => ⟨hh.1, hh.2⟩
  · obtain rfl : n = 0 := by omega
    obtain rfl : ss = [] := List.eq_nil_of_length_eq_zero hl
    exact (Tryd.strings_Join_none A c ⟨#[44, 32]⟩ w).mono fun e w' hh => ⟨hh.1, by rw [hh.2]; exact Ext.refl _⟩

set_option maxHeartbeats 1000000 in
theorem field_Get (A : Option Addr) (n c : Nat) (fs : List Fd) (name : ByteArray) (w : World) (hf : RdF w A n fs)
    (hn : n ≤ 1073741824) (hs : name.size ≤ 9223372036854775807) (B : Nat) (hB : B ≤ 140737488355328) (hsz : Bsz B fs) (hT : sumF fs + 2 * n ≤ 70368744177664) :
    Calls Tryd.prog 42 #[.slice A n c, .string name] w fun e w' => e = .returned (.tuple #[.string (joinS (allS fs name)), .bool (decide (0 < (allS fs name).length))]) ∧ Ext w w' := by
  have hl := hf.lenF
  have hta := totS_all fs name
  rw [hl] at hta
  have hal : (allS fs name).length ≤ n := by have := allS_len fs name n; rwa [List.take_of_length_le (by omega)] at this
  have Hl := Lib.hid hl; clear hl
  go_enter Tryd.func42, Tryd.ntmps42
  go_wp2_with fail
  refine (field_All _ _ _ _ _ _ hf hn hs (fun f hff => by have := (hsz f hff).1; omega)).mono ?_
  rintro e w1 ⟨A', n', c', rfl, hr, hc, hb1⟩
  have hl2 := hr.lenS
  rw [← hl2] at hc hr
  obtain rfl := hl2
  generalize hss : allS fs name = ss at *
  have Hss := Lib.hid hss; clear hss
  go_wp2_with fail
  refine (str_Join _ _ _ _ _ hr hc (by omega)).mono ?_
  rintro e w2 ⟨rfl, hb2⟩
  go_wp2_with fail
  go_ret2
  obtain rfl := Hss.out
  exact ⟨by simp, hb1.trans hb2⟩

set_option maxHeartbeats 1000000 in
theorem ref_Get (A : Option Addr) (n c : Nat) (fs : List Fd) (name : ByteArray) (w : World) (hf : RdF w A n fs)
    (hn : n ≤ 1073741824) (hs : name.size ≤ 4611686018427387904) (B : Nat) (hB : B ≤ 140737488355328) (hsz : Bsz B fs) (hT : sumF fs + 2 * n ≤ 70368744177664) :
    Calls Tryd.prog 45 #[.slice A n c, .string name] w fun e w' => e = .returned (.tuple #[.string (joinS (allS fs name)), .bool (decide (0 < (allS fs name).length))]) ∧ Ext w w' := by
  have hl := hf.lenF
  have hta := totS_all fs name
  rw [hl] at hta
  have hal : (allS fs name).length ≤ n := by have := allS_len fs name n; rwa [List.take_of_length_le (by omega)] at this
  have Hl := Lib.hid hl; clear hl
  go_enter Tryd.func45, Tryd.ntmps45
  go_wp2_with fail
  refine (ref_All _ _ _ _ _ _ hf hn hs (fun f hff => by have := (hsz f hff).1; omega)).mono ?_
  rintro e w1 ⟨A', n', c', rfl, hr, hc, hb1⟩
  have hl2 := hr.lenS
  rw [← hl2] at hc hr
  obtain rfl := hl2
  generalize hss : allS fs name = ss at *
  have Hss := Lib.hid hss; clear hss
  go_wp2_with fail
  go_loopw [7, 14] (fun v i wr => ∃ k, k ≤ ss.length ∧ i = .int .i64 (k : Nat) ∧ v = .string (joinS (ss.take k)) ∧ Ext w1 wr) (fun _ i _ => ss.length - (intOf i).toNat)
  case atStart => exact ⟨0, Nat.zero_le _, rfl, rfl, Ext.refl _⟩
  case round =>
    obtain ⟨k, hk, rfl, rfl, hbr⟩ := hrel
    by_cases hlt : k < ss.length
    · obtain ⟨b, o, rfl, hc0⟩ := (hr.ext hbr).atS hlt
      have hj := joinS_size (ss.take k)
      have ht := totS_at hlt
      have hlk : (ss.take k).length ≤ k := by simp; omega
      have h2 : (⟨#[44, 32]⟩ : ByteArray).size = 2 := rfl
      by_cases hk0 : 0 < k
      · have Hst := Lib.hid (joinS_succ hk0 hlt)
        generalize ss[k] = v at *
        generalize hX : joinS (ss.take k) = X at *
        have hs1 : ∀ w, (Op.stringOp .add X ⟨#[44, 32]⟩).run Tryd.prog w = .ok (.string (X ++ ⟨#[44, 32]⟩)) w := fun w => run_string_add_sum w X _ (by rw [h2]; omega)
        have hs2 : ∀ w, (Op.stringOp .add (X ++ ⟨#[44, 32]⟩) v).run Tryd.prog w = .ok (.string ((X ++ ⟨#[44, 32]⟩) ++ v)) w := fun w => run_string_add_sum w _ _ (by rw [ByteArray.size_append, h2]; omega)
        clear hX h2
        go_wp2
        go_roundw
        case rel => exact ⟨k + 1, by omega, by go_num, by rw [Hst.out], hbr⟩
        case measure => simp [intOf]; omega
      · have Hst : Hid (joinS (ss.take (k + 1)) = ss[k]) := by
          have h0 : k = 0 := by omega
          subst h0
          exact joinS_zero hlt
        have hX : joinS (ss.take k) = ⟨#[]⟩ := by
          have h0 : k = 0 := by omega
          subst h0
          rfl
        generalize ss[k] = v at *
        rw [hX]
        have he : (⟨#[]⟩ : ByteArray) ++ v = v := bytes_ext (by rw [data_append]; rfl)
        have hs2 : ∀ w, (Op.stringOp .add ⟨#[]⟩ v).run Tryd.prog w = .ok (.string v) w := fun w => by
          rw [run_string_add_sum w _ _ (by show 0 + v.size ≤ _; omega), he]
        clear hX h2 hj he
        go_wp2
        go_roundw
        case rel => exact ⟨k + 1, by omega, by go_num, by rw [Hst.out], hbr⟩
        case measure => simp [intOf]; omega
    · obtain rfl : k = ss.length := by omega
      have he : ss.take ss.length = ss := List.take_of_length_le (Nat.le_refl _)
      rw [he]
      go_wp2
      go_ret2
      obtain rfl := Hss.out
      exact ⟨by simp, hb1.trans hbr⟩
end Go.Proofs.YtghaopeijncgaaaDoor
