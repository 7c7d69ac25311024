
/- The walk of quaysideref14.Date. -/
import Derived.Test.YtjacgdjnocpodaaGreatDoorLf1
import Derived.Test.YtjacgdjnocpodaaGreatDoorRD4
namespace Go.Proofs.YtjacgdjnocpodaaGreatDoor
open Go.RowKit

set_option maxHeartbeats 2000000 in
set_option maxRecDepth 100000 in
theorem ref_Date (A : Option Addr) (n c : Nat) (fs : List Fd) (name : ByteArray) (w : World) (hf : RdF w A n fs)
    (hn : n ≤ 1073741824) (hs : name.size ≤ 4611686018427387904) (hsz : Bsz 1048576 fs) :
    Calls Tryz.prog 17 #[.slice A n c, .string name] w fun e w' => Pd2 (dateS fs name) e ∧ Ext w w' := by
  have HA := Lib.hid (ref_All A n c fs name w hf hn hs (fun f hf => Nat.le_trans (hsz f hf).1 (by decide)))
  have hv := bsz_vals (name := name) hsz
  have Hd := Lib.hid (show dateS fs name = oneP (allS fs name) from rfl)
  generalize dateS fs name = D at *
  generalize allS fs name = L at *
  have Hv := Lib.hid hv
  clear hv
  go_enter Tryz.func17, Tryz.ntmps17
  go_wp2_with fail
  refine HA.out.mono ?_; rintro e w1 ⟨A1, n1, c1, rfl, hr1, hc1, hb1⟩
  have hl1 := hr1.lenS
  by_cases h1 : n1 = 1
  · subst h1
    match L, hl1 with
    | [v], _ =>
    obtain ⟨b, o, rfl, hc⟩ := hr1.atS (k := 0) Nat.one_pos
    rw [Nat.add_zero] at hc
    have hc : w1.cell? ⟨b, o, none⟩ = some (.string v) := hc
    have HD := Lib.hid (show D = dateP v from Hd.out)
    have Hvs := Lib.hid (Hv.out v (List.mem_cons_self ..))
    have hP := rd_Parse v
    generalize dateP v = P at *
    have HP := Lib.hid hP; clear hP hl1
    go_wp2_with fail
    refine (HP.out _ (by have := Hvs.out; omega)).mono ?_; rintro e w2 ⟨⟨k, rfl, hk⟩, hb2⟩
    have Hk := Lib.hid hk; clear hk
    go_wp2_with fail
    go_ret2
    exact ⟨⟨k, by rw [HD.out]; rfl, fun j hj => Hk.out j (by rw [← HD.out]; exact hj)⟩, hb1.trans hb2⟩
  · have hz : ((n1 : Int) != 1) = true := by simp; omega
    have HD := Lib.hid (show D = none by rw [Hd.out, oneP_no (by omega)])
    clear hl1 h1
    go_wp2_with fail
    go_ret2
    exact ⟨Pd2.no HD.out rfl, hb1⟩
end Go.Proofs.YtjacgdjnocpodaaGreatDoor
