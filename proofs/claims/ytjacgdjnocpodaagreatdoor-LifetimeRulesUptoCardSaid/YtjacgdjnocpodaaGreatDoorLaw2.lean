
/- The walks of field.Size, quaysidelaw02.awake; FieldGets returns true. -/
import Derived.Test.YtjacgdjnocpodaaGreatDoorGet
namespace Go.Proofs.YtjacgdjnocpodaaGreatDoor
open Go.RowKit

theorem sizeF_step {fs : List Fd} {k : Nat} (h : k < fs.length) : sumF (fs.take (k + 1)) + 4 * (k + 1) = sumF (fs.take k) + 4 * k + (fs[k].1.size + fs[k].2.size + 4) := by
  rw [sumF_step h]; omega

def awakeFs : List Fd := [(⟨#[65]⟩, ⟨#[49]⟩), (⟨#[98]⟩, ⟨#[120]⟩), (⟨#[97]⟩, ⟨#[50]⟩)]
theorem awake_get : joinS (allS awakeFs ⟨#[65]⟩) = ⟨#[49, 44, 32, 50]⟩ ∧ (allS awakeFs ⟨#[65]⟩).length = 2 ∧ sumF awakeFs + 4 * 3 = 18 := by decide +kernel

theorem awake_bsz : Bsz 1 awakeFs := by unfold Bsz; decide +kernel

theorem gets_small {fs : List Fd} (h : smallS fs = true) : fs.length ≤ 70 ∧ sumF fs ≤ 6000 := by
  simpa [smallS] using h

end Go.Proofs.YtjacgdjnocpodaaGreatDoor
