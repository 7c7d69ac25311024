
/- field.Get in the words of an option. -/
import Derived.Test.YtjacgdjnocpodaaGreatDoorGet
import Derived.Test.YtjacgdjnocpodaaGreatDoorPl14
namespace Go.Proofs.YtjacgdjnocpodaaGreatDoor
open Go.RowKit

def getO (fs : List Fd) (name : ByteArray) : Option ByteArray := if 0 < (allS fs name).length then some (joinS (allS fs name)) else none
def getV (o : Option ByteArray) : Value := .tuple #[.string (o.getD ⟨#[]⟩), .bool o.isSome]
theorem getO_some (fs : List Fd) (name : ByteArray) : (getO fs name).isSome = hasF fs name := by
  unfold getO hasF
  split
  · rename_i h; rw [decide_eq_true h]; rfl
  · rename_i h; rw [decide_eq_false h]; rfl
theorem getV_get (fs : List Fd) (name : ByteArray) : Value.tuple #[.string (joinS (allS fs name)), .bool (decide (0 < (allS fs name).length))] = getV (getO fs name) := by
  unfold getO
  cases h : allS fs name with
  | nil => rfl
  | cons a l =>
    rw [if_pos (by simp)]
    simp [getV]
theorem field_GetO (A : Option Addr) (n c : Nat) (fs : List Fd) (name : ByteArray) (w : World) (hf : RdF w A n fs)
    (hn : n ≤ 1073741824) (hs : name.size ≤ 9223372036854775807) (hsz : Bsz 1048576 fs) (hT : sumF fs + 2 * n ≤ 70368744177664) :
    Calls Tryz.prog 20 #[.slice A n c, .string name] w fun e w' => e = .returned (getV (getO fs name)) ∧ Ext w w' := by
  rw [← getV_get]
  exact field_Get A n c fs name w hf hn hs 1048576 (by decide) hsz hT
end Go.Proofs.YtjacgdjnocpodaaGreatDoor
