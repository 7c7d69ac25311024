
/- The walk of field.lower: it returns the string in lower case, and writes only memory of its own. Condition: the string's length is that of a Go string. -/
import Derived.Test.YtaebbnadmfbdjaaDoorSpec2
import Derived.Test.YtaebbnadmfbdjaaDoorRows
set_option linter.unusedSimpArgs false
set_option linter.unusedVariables false
namespace Go.Proofs.YtaebbnadmfbdjaaDoor
open Go.RowKit

theorem low_step_yes {s : ByteArray} {k B : Nat} {wr : World} (lt : k < s.size) (hc : ∀ j, j < s.size → wr.cell? ⟨B, j, none⟩ = some (.int .u8 (lowAt s k j)))
    (hf : ∀ j, j < s.size → wr.frozen? ⟨B, j, none⟩ = false) (hy : ((lowC s.data[k]).toNat : Int) = s.data[k].toNat + 32) :
    (∀ j, j < s.size → (wr.setCell ⟨B, k, none⟩ (.int .u8 (s.data[k].toNat + 32))).cell? ⟨B, j, none⟩ = some (.int .u8 (lowAt s (k + 1) j))) ∧
    (∀ j, j < s.size → (wr.setCell ⟨B, k, none⟩ (.int .u8 (s.data[k].toNat + 32))).frozen? ⟨B, j, none⟩ = false) := by
  refine ⟨fun j hj => ?_, fun j hj => by rw [World.frozen?_setCell]; exact hf j hj⟩
  by_cases hjk : j = k
  · subst hjk
    rw [World.cell?_setCell_same _ _ _ (hc j hj), lowAt_next, List.getD_eq_getElem?_getD, List.getElem?_eq_getElem (show j < s.data.toList.length from hj)]
    simp only [Option.getD_some, Array.getElem_toList]
    rw [hy]
  · rw [World.cell?_setCell_other _ _ _ _ (by intro e; injection e with _ e; exact hjk e.symm), hc j hj, lowAt_same s k j hjk]
theorem low_step_no {s : ByteArray} {k B : Nat} {wr : World} (lt : k < s.size) (hc : ∀ j, j < s.size → wr.cell? ⟨B, j, none⟩ = some (.int .u8 (lowAt s k j)))
    (hn : lowC s.data[k] = s.data[k]) : ∀ j, j < s.size → wr.cell? ⟨B, j, none⟩ = some (.int .u8 (lowAt s (k + 1) j)) := by
  intro j hj
  by_cases hjk : j = k
  · subst hjk
    rw [hc j hj, lowAt_next, lowAt_self, List.getD_eq_getElem?_getD, List.getElem?_eq_getElem (show j < s.data.toList.length from hj)]
    simp only [Option.getD_some, Array.getElem_toList]
    rw [hn]
  · rw [hc j hj, lowAt_same s k j hjk]

set_option maxHeartbeats 1000000 in
theorem field_lower (s : ByteArray) (w : World) (hs : s.size ≤ 9223372036854775807) :
    Calls Tryd.prog 39 #[.string s] w fun e w' => e = .returned (.string (lowS s)) ∧ Ext w w' := by
  go_enter Tryd.func39, Tryd.ntmps39
  have hb := fun w => run_bytes_of_string (P := Tryd.prog) w 9 59 5 s Tryd.underlying9 Tryd.underlying59 Tryd.underlying5
  go_wp2_with fail
  clear hb
  generalize hcap : grownCap w s.size 0 5 = cap
  have hcs : s.size ≤ cap := by rw [← hcap]; exact grownCap_ge _ _ _ _
  clear hcap
  go_loopw [10] (fun i wr => ∃ k : Nat, k ≤ s.size ∧ i = .int .i64 k ∧ Below w.heap.size w wr ∧ (∀ j, j < s.size → wr.cell? ⟨w.heap.size, j, none⟩ = some (.int .u8 (lowAt s k j))) ∧ (∀ j, j < s.size → wr.frozen? ⟨w.heap.size, j, none⟩ = false)) (fun i _ => s.size - (intOf i).toNat)
  case atStart =>
    refine ⟨0, Nat.zero_le _, rfl, ((Below.refl _ _).alloc (Nat.le_refl _) _).drew, fun j hj => ?_, fun j hj => ?_⟩
    · show (w.alloc _).cell? _ = _
      rw [World.cell?_alloc_mark, bytesRow_at s cap j hj, lowAt_zero s j hj]
      rfl
    · show (w.alloc _).frozen? _ = _
      rw [World.frozen?_alloc_mark]
      have : j < (bytesRow s cap).size := by simp [bytesRow]; omega
      simp; omega
  case round =>
    obtain ⟨k, hk, rfl, hbel, hcell, hfr⟩ := hrel
    by_cases hlt : k < s.size
    · have hc := hcell k hlt
      have hf := hfr k hlt
      have Hcell := Lib.hid hcell; clear hcell
      have Hfr := Lib.hid hfr; clear hfr
      rw [lowAt_self] at hc
      go_wp2
      · have h1 : (65 : Int) ≤ (s.data[k].toNat : Int) := by assumption
        have h2 : (s.data[k].toNat : Int) ≤ 90 := by assumption
        have hy := lowC_yes s.data[k] h1 h2
        have ha := low_step_yes (lt := hlt) Hcell.out Hfr.out hy
        go_roundw
        case rel => exact ⟨k + 1, by omega, by go_num, hbel.setCell (Nat.le_refl _) _, ha.1, ha.2⟩
        case measure => simp [intOf]; omega
      all_goals
        have hn : lowC s.data[k] = s.data[k] := lowC_no _ (by omega)
        have ha := low_step_no hlt Hcell.out hn
        go_roundw
        case rel => exact ⟨k + 1, by omega, by go_num, hbel, ha, Hfr.out⟩
        case measure => simp [intOf]; omega
    · have hk' : k = s.size := by omega
      subst hk'
      have hback := run_convert_bytes_back (P := Tryd.prog) wr 59 9 5 ⟨w.heap.size, 0, none⟩ cap (lowL s.data.toList) Tryd.underlying59 Tryd.underlying5 Tryd.underlying9
        (fun j hj => by rw [add_plain, Nat.zero_add, hcell j (by simpa [lowL] using hj), lowAt_end s s.size j (by simpa [lowL] using hj) hj])
      rw [show (lowL s.data.toList).length = s.size by simp [lowL]] at hback
      clear hcell hfr
      go_wp2
      go_ret
      exact ⟨rfl, hbel⟩
end Go.Proofs.YtaebbnadmfbdjaaDoor
