
/- The contract of strings.Join on a slice of strings that is read. -/
import Derived.Test.YtjacgdjnocpodaaGreatDoorSpec2
import Derived.Test.YtjacgdjnocpodaaGreatDoorShelf
namespace Go.Proofs.YtjacgdjnocpodaaGreatDoor
open Go.RowKit

theorem str_Join (A : Option Addr) (n c : Nat) (ss : List ByteArray) (w : World) (h : RdS w A n ss) (hc : n ≤ c) (hT : totS ss + 2 * n ≤ 70368744177664) :
    Calls Tryz.prog 30 #[.slice A n c, .string ⟨#[44, 32]⟩] w fun e w' => e = .returned (.string (joinS ss)) ∧ Ext w w' := by
  have hl := h.lenS
  by_cases h0 : 0 < n
  · obtain ⟨b, o, rfl, hcell⟩ := h.2 (by simp; omega)
    have hbk : b < w.heap.size := World.block_lt_of_cell? w _ (hcell 0 (.string (ss[0]'(by omega))) (by simp [List.getElem?_eq_getElem (show 0 < ss.length by omega)]))
    have hj := joinL_len ss
    subst hl
    exact (Tryz.strings_Join b o c ss ⟨#[44, 32]⟩ w (fun j x hx => hcell j _ (by simp [hx])) hbk (by omega) hc (by simp only []; omega)).mono fun e w' hh => ⟨hh.1, hh.2⟩
  · obtain rfl : n = 0 := by omega
    obtain rfl : ss = [] := List.eq_nil_of_length_eq_zero hl
    exact (Tryz.strings_Join_none A c ⟨#[44, 32]⟩ w).mono fun e w' hh => ⟨hh.1, by rw [hh.2]; exact Ext.refl _⟩
end Go.Proofs.YtjacgdjnocpodaaGreatDoor
