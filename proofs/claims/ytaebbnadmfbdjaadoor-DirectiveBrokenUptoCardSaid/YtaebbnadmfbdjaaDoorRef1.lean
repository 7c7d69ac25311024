
/- The walks of quaysideref01.Lower, quaysideref02.Of, quaysideref02.All. -/
import Derived.Test.YtaebbnadmfbdjaaDoorAll
set_option linter.unusedSimpArgs false
set_option linter.unusedVariables false
namespace Go.Proofs.YtaebbnadmfbdjaaDoor
open Go.RowKit

theorem conv_one (n : Int) (w : World) : (convert 59 9 (.slice (some ⟨w.heap.size, 0, none⟩) 1 1)).run Tryd.prog (w.alloc (.cells #[.int .u8 n] 5)) =
    .ok (.string ⟨#[UInt8.ofNat n.toNat]⟩) (w.alloc (.cells #[.int .u8 n] 5)) :=
  run_convert_bytes_arg (P := Tryd.prog) _ 59 5 Tryd.underlying59 Tryd.underlying5 w.heap.size 0 1 1 [n] rfl
    (fun i hi => by
      obtain rfl : i = 0 := by omega
      rw [World.cell?_alloc_mark]; rfl) 9 Tryd.underlying9

set_option maxHeartbeats 1000000 in
theorem ref_Lower (s : ByteArray) (w : World) (hs : s.size ≤ 4611686018427387904) :
    Calls Tryd.prog 44 #[.string s] w fun e w' => e = .returned (.string (lowS s)) ∧ Ext w w' := by
  go_enter Tryd.func44, Tryd.ntmps44
  go_wp2_with fail
  go_loopw [3, 8] (fun v i wr => ∃ k, k ≤ s.size ∧ i = .int .i64 (k : Nat) ∧ v = .string (lowTo s k) ∧ Ext w wr) (fun _ i _ => s.size - (intOf i).toNat)
  case atStart => exact ⟨0, Nat.zero_le _, rfl, rfl, Ext.refl _⟩
  case round =>
    obtain ⟨k, hk, rfl, rfl, hbr⟩ := hrel
    by_cases hlt : k < s.size
    · have hsz := lowTo_size s k
      have Hst := Lib.hid (lowTo_step s k hlt)
      have hcv := conv_one
      have Hyes := Lib.hid (lowC_up s[k])
      have Hno := Lib.hid (lowC_no s[k])
      generalize hX : lowTo s k = X at *
      clear hX
      have hl1 : ∀ b : UInt8, (⟨#[b]⟩ : ByteArray).size = 1 := fun b => rfl
      have hsum : ∀ b : UInt8, ∀ w, (Op.stringOp .add X ⟨#[b]⟩).run Tryd.prog w = .ok (.string (X ++ ⟨#[b]⟩)) w := fun b w => run_string_add_sum w X _ (by rw [hl1]; omega)
      clear hl1
      go_wp2
      · have h1 : (65 : Int) ≤ (s[k].toNat : Int) := by assumption
        have h2 : (s[k].toNat : Int) ≤ 90 := by assumption
        go_roundw
        case rel => exact ⟨k + 1, by omega, by go_num, by rw [← Hst.out, Hyes.out h1 h2], hbr.alloc _⟩
        case measure => simp [intOf]; omega
      all_goals
        have hn := Hno.out (by omega)
        go_roundw
        case rel => exact ⟨k + 1, by omega, by go_num, by rw [← Hst.out, hn], hbr.alloc _⟩
        case measure => simp [intOf]; omega
    · obtain rfl : k = s.size := by omega
      go_wp2
      go_ret
      exact ⟨congrArg (fun x => Ending.returned (.string x)) (lowTo_end s), hbr⟩

end Go.Proofs.YtaebbnadmfbdjaaDoor
