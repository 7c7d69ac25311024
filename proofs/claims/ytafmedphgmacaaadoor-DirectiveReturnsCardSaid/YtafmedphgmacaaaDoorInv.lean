
/- A drawn region by an invariant: whatever order is picked, each listed operation keeps it. Plain facts on regions, no program in sight. -/
import Derived.Deep.RegionHeld
namespace Go.Proofs.YtafmedphgmacaaaDoor
open Go

section
variable {P : Program} {ops : Array Oper} {Q : Exit → Act → World → Prop} {md : Region.Mode} {S : World → Prop}
theorem wpAnyH_inv {I : Nat → Array Bool → Act → World → Prop} (k : Nat)
    (hend : ∀ listed a w, I 0 listed a w → wpAnyH P md ops Q S k listed a w)
    (hstep : ∀ n listed a w, I (n + 1) listed a w → Region.ready md ops listed ≠ [] ∧ ∀ i ∈ Region.ready md ops listed, wpOp P ops Q i (fun a' w' => S w' ∧ I n (listed.setIfInBounds i true) a' w') a w) :
    ∀ n listed a w, I n listed a w → wpAnyH P md ops Q S (k + n) listed a w
  | 0, _, _, _, h => hend _ _ _ h
  | n + 1, listed, a, w, h => ⟨fun e => absurd e (hstep n listed a w h).1, fun i hi => wpOp_mono (fun a' w' h' => ⟨h'.1, wpAnyH_inv k hend hstep n _ _ _ h'.2⟩) ((hstep n listed a w h).2 i hi)⟩
theorem inv_step {listed : Array Bool} {J : Nat → Act → World → Prop} {a : Act} {w : World} (rs : List Nat) (hr : Region.ready md ops listed = rs) (hne : rs ≠ [])
    (h : ∀ i ∈ rs, wpOp P ops Q i (J i) a w) : Region.ready md ops listed ≠ [] ∧ ∀ i ∈ Region.ready md ops listed, wpOp P ops Q i (J i) a w := by
  subst hr; exact ⟨hne, h⟩
theorem inv_op {J : Act → World → Prop} {a : Act} {w : World} {i : Nat} {o : Oper} (ho : ops[i]? = some o)
    (h : ∀ K' : Act → World → Prop, Shut (∀ a w, J a w → K' a w) → if Region.wanted o (yielded ops a.tmps) = true then Oper.wp P o a w K' Q else K' (a.put o.dst undef) w) :
    wpOp P ops Q i J a w := wpOp_step ho (fun K' hK => h K' (fun a w hJ => hK a w hJ))
end
end Go.Proofs.YtafmedphgmacaaaDoor
