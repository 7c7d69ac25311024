
/- The walks of the law package's large and awake; of quaysideref14.Directives, Allowance; of LifetimeAllowances, LifetimeBounds, LifetimeStrict. -/
import Derived.Test.YtjacgdjnocpodaaGreatDoorLf2
import Derived.Test.YtjacgdjnocpodaaGreatDoorLaw1
import Derived.Test.YtjacgdjnocpodaaGreatDoorRem
namespace Go.Proofs.YtjacgdjnocpodaaGreatDoor
open Go.RowKit

theorem bsz_of_sumF : ∀ (fs : List Fd), Bsz (sumF fs) fs
  | [] => fun f hf => by cases hf
  | x :: l => fun f hf => by
    have hs : sumF (x :: l) = x.1.size + x.2.size + sumF l := by simp [sumF]
    rcases List.mem_cons.1 hf with rfl | hf
    · omega
    · have := bsz_of_sumF l f hf
      omega
theorem sumF_app14 (fs gs : List Fd) : sumF (fs ++ gs) = sumF fs + sumF gs := by simp [sumF]
/-- Are there more bytes than the statements use? -/
def lg14 (fs : List Fd) : Bool := decide (4000 < 2 * fs.length + sumF fs)
set_option maxHeartbeats 2000000 in
theorem law14_large (A : Option Addr) (n c : Nat) (fs : List Fd) (w : World) (hf : RdF w A n fs) (hb : fs.length + sumF fs ≤ 1048576) :
    Calls Tryz.prog 4 #[.slice A n c] w fun e w' => e = .returned (.bool (lg14 fs)) ∧ Ext w w' := by
  have hl := hf.lenF
  have Hl := Lib.hid hl; clear hl
  have hn : n ≤ 1048576 := by have := Hl.out; omega
  have hsz := bsz_of_sumF fs
  go_enter Tryz.func4, Tryz.ntmps4
  go_wp2_with fail
  go_loopw [3, 11] (fun v i wr => ∃ k z, k ≤ n ∧ i = .int .i64 (k : Nat) ∧ v = .int .i64 (z : Nat) ∧ z = 2 * n + sumF (fs.take k) ∧ z ≤ 4194304 ∧ Ext w wr) (fun _ i _ => n - (intOf i).toNat)
  case atStart => exact ⟨0, 2 * n, Nat.zero_le _, rfl, by go_num, by simp [sumF], by omega, Ext.refl _⟩
  case round =>
    obtain ⟨k, z, hk, rfl, rfl, hz, hz2, hbr⟩ := hrel
    have Hz := Lib.hid hz; clear hz
    by_cases hlt : k < n
    · have hlt' : k < fs.length := by have := Hl.out; omega
      obtain ⟨b, o, rfl, hc0, hc1⟩ := (hf.ext hbr).atF hlt'
      have hm : sumF (fs.take k) + (fs[k].1.size + fs[k].2.size) ≤ sumF fs := by
        rw [← sumF_step hlt']
        have := sumF_app14 (fs.take (k + 1)) (fs.drop (k + 1))
        rw [List.take_append_drop] at this
        omega
      have Hst := Lib.hid (sumF_step hlt')
      have h1 : fs[k].1.size ≤ 1048576 := by omega
      have h2 : fs[k].2.size ≤ 1048576 := by omega
      have Hz3 := Lib.hid (show z + (fs[k].1.size + fs[k].2.size) ≤ 4194304 by have := Hz.out; have := Hl.out; omega)
      clear hm
      generalize fs[k].1 = nm at *
      generalize fs[k].2 = vl at *
      go_wp2_with fail
      go_roundw
      case rel => exact ⟨k + 1, z + (nm.size + vl.size), by omega, by go_num, by go_num, by rw [Hst.out, Hz.out]; omega, Hz3.out, hbr.alloc _⟩
      case measure => simp [intOf]; omega
    · obtain rfl : k = n := by omega
      have He := Lib.hid (show lg14 fs = decide (4000 < z) by unfold lg14; rw [Hz.out, List.take_of_length_le (by have := Hl.out; omega), Hl.out])
      go_wp2_with fail
      go_ret
      exact ⟨congrArg (fun x => Ending.returned (.bool x)) (by rw [He.out]; (try simp); (try omega)), hbr⟩

def aw14 : List Fd := [(ccN, ⟨#[109, 97, 120, 45, 97, 103, 101, 61, 54, 48, 44, 32, 115, 45, 109, 97, 120, 97, 103, 101, 61, 49, 48]⟩)]
theorem aw14_of : ofS 200 aw14 = (10000, 1) := by decide +kernel
theorem aw14_sum : sumF aw14 = 36 := by decide +kernel
set_option maxHeartbeats 2000000 in
set_option maxRecDepth 100000 in
theorem law14_awake (w : World) (hg : GlH w) (hgl : Gl w) : Calls Tryz.prog 5 #[] w fun e w' => e = .returned (.bool true) ∧ Ext w w' := by
  have hE0 := (Ext.refl w).alloc (.cells (fldCells aw14).toArray 36)
  have hr : RdF (w.alloc (.cells (fldCells aw14).toArray 36)) (some ⟨w.heap.size, 0, none⟩) 1 aw14 := Rd.lit w _ _ rfl 2 1 rfl
  have hO := life_Of 200 (some ⟨w.heap.size, 0, none⟩) 1 1 aw14 _ hr (by decide) ((bsz_of_sumF _).mono (by rw [aw14_sum]; decide)) (hg.ext hE0) (by rw [aw14_sum]; decide) (hgl.ext hE0)
  rw [aw14_of] at hO
  have HO := Lib.hid hO; clear hO
  have HE := Lib.hid hE0; clear hE0 hr
  go_enter Tryz.func5, Tryz.ntmps5
  go_wp2_with fail
  refine HO.out.mono ?_; rintro e w1 ⟨rfl, hb1⟩
  rw [show pairV (10000, 1) = .tuple #[.int .i64 10000, .int .i64 1] from rfl]
  go_wp2_with fail
  go_ret
  exact ⟨rfl, HE.out.trans hb1⟩

theorem lg_no14 {fs : List Fd} (h : lg14 fs = false) : 2 * fs.length + sumF fs ≤ 4000 := by
  unfold lg14 at h
  have := of_decide_eq_false h
  omega

def wdL4 : List ByteArray := [mrW, ncW, smW, prW]
theorem strict_all (fs : List Fd) {k : Nat} (h : k < 4) : alwS (fs ++ [(lowS ccN, wdL4[k]'h)]) = (0, 0) := by
  have : k = 0 ∨ k = 1 ∨ k = 2 ∨ k = 3 := by omega
  rcases this with rfl | rfl | rfl | rfl
  · exact strict_mr fs
  · exact strict_nc fs
  · exact strict_sm fs
  · exact strict_pr fs
theorem wd_small {k : Nat} (h : k < 4) : (wdL4[k]'h).size ≤ 100 := by
  have : k = 0 ∨ k = 1 ∨ k = 2 ∨ k = 3 := by omega
  rcases this with rfl | rfl | rfl | rfl
  · show mrW.size ≤ 100; decide
  · show ncW.size ≤ 100; decide
  · show smW.size ≤ 100; decide
  · show prW.size ≤ 100; decide
end Go.Proofs.YtjacgdjnocpodaaGreatDoor
