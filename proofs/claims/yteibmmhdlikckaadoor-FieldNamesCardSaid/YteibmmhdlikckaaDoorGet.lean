
/- The walks of field.Get and quaysideref02.Get. -/
import Derived.Test.YteibmmhdlikckaaDoorLaw1
import Derived.Test.YteibmmhdlikckaaDoorShelf
set_option linter.unusedSimpArgs false
set_option linter.unusedVariables false
namespace Go.Proofs.YteibmmhdlikckaaDoor
open Go.RowKit

theorem str_Join (A : Option Addr) (n c : Nat) (ss : List ByteArray) (w : World) (h : RdS w A n ss) (hc : n ≤ c) (hT : totS ss + 2 * n ≤ 70368744177664) :
    Calls Tryd.prog 34 #[.slice A n c, .string ⟨#[44, 32]⟩] w fun e w' => e = .returned (.string (joinS ss)) ∧ Ext w w' := by
  have hl := h.lenS
  by_cases h0 : 0 < n
  · obtain ⟨b, o, rfl, hcell⟩ := h.2 (by simp; omega)
    have hbk : b < w.heap.size := World.block_lt_of_cell? w _ (hcell 0 (.string (ss[0]'(by omega))) (by simp [List.getElem?_eq_getElem (show 0 < ss.length by omega)]))
    have hj := joinL_len ss
    subst hl
    exact (Tryd.strings_Join b o c ss ⟨#[44, 32]⟩ w (fun j x hx => hcell j _ (by simp [hx])) hbk (by omega) hc (by simp only []; omega)).mono fun e w' hh => ⟨hh.1, hh.2⟩
  · obtain rfl : n = 0 := by omega
    obtain rfl : ss = [] := List.eq_nil_of_length_eq_zero hl
    exact (Tryd.strings_Join_none A c ⟨#[44, 32]⟩ w).mono fun e w' hh => ⟨hh.1, by rw [hh.2]; exact Ext.refl _⟩

set_option maxHeartbeats 1000000 in
theorem field_Get (A : Option Addr) (n c : Nat) (fs : List Fd) (name : ByteArray) (w : World) (hf : RdF w A n fs)
    (hn : n ≤ 1073741824) (hs : name.size ≤ 9223372036854775807) (B : Nat) (hB : B ≤ 140737488355328) (hsz : Bsz B fs) (hT : sumF fs + 2 * n ≤ 70368744177664) :
    Calls Tryd.prog 17 #[.slice A n c, .string name] w fun e w' => e = .returned (.tuple #[.string (joinS (allS fs name)), .bool (decide (0 < (allS fs name).length))]) ∧ Ext w w' := by
  have hl := hf.lenF
  have hta := totS_all fs name
  rw [hl] at hta
  have hal : (allS fs name).length ≤ n := by have := allS_len fs name n; rwa [List.take_of_length_le (by omega)] at this
  have Hl := Lib.hid hl; clear hl
  go_enter Tryd.func17, Tryd.ntmps17
  go_wp2_with fail
  refine (field_All _ _ _ _ _ _ hf hn hs (fun f hff => by have := (hsz f hff).1; omega)).mono ?_
  rintro e w1 ⟨A', n', c', rfl, hr, hc, hb1⟩
  have hl2 := hr.lenS
  rw [← hl2] at hc hr
  obtain rfl := hl2
  generalize hss : allS fs name = ss at *
  have Hss := Lib.hid hss; clear hss
  go_wp2_with fail
  refine (str_Join _ _ _ _ _ hr hc (by omega)).mono ?_
  rintro e w2 ⟨rfl, hb2⟩
  go_wp2_with fail
  go_ret2
  obtain rfl := Hss.out
  exact ⟨by simp, hb1.trans hb2⟩

end Go.Proofs.YteibmmhdlikckaaDoor
