
/- The walks of field.Get and quaysideref02.Get. -/
import Derived.Test.YtjacgdjnocpodaaGreatDoorLaw1
import Derived.Test.YtjacgdjnocpodaaGreatDoorShelf
import Derived.Test.YtjacgdjnocpodaaGreatDoorJoin
namespace Go.Proofs.YtjacgdjnocpodaaGreatDoor
open Go.RowKit

set_option maxHeartbeats 1000000 in
theorem field_Get (A : Option Addr) (n c : Nat) (fs : List Fd) (name : ByteArray) (w : World) (hf : RdF w A n fs)
    (hn : n ≤ 1073741824) (hs : name.size ≤ 9223372036854775807) (B : Nat) (hB : B ≤ 140737488355328) (hsz : Bsz B fs) (hT : sumF fs + 2 * n ≤ 70368744177664) :
    Calls Tryz.prog 20 #[.slice A n c, .string name] w fun e w' => e = .returned (.tuple #[.string (joinS (allS fs name)), .bool (decide (0 < (allS fs name).length))]) ∧ Ext w w' := by
  have hl := hf.lenF
  have hta := totS_all fs name
  rw [hl] at hta
  have hal : (allS fs name).length ≤ n := by have := allS_len fs name n; rwa [List.take_of_length_le (by omega)] at this
  have Hl := Lib.hid hl; clear hl
  go_enter Tryz.func20, Tryz.ntmps20
  go_wp2_with fail
  refine (field_All _ _ _ _ _ _ hf hn hs (fun f hff => by have := (hsz f hff).1; omega)).mono ?_
  rintro e w1 ⟨A', n', c', rfl, hr, hc, hb1⟩
  have hl2 := hr.lenS
  rw [← hl2] at hc hr
  obtain rfl := hl2
  generalize hss : allS fs name = ss at *
  have Hss := Lib.hid hss; clear hss
  go_wp2_with fail
  refine (str_Join _ _ _ _ _ hr hc (by omega)).mono ?_
  rintro e w2 ⟨rfl, hb2⟩
  go_wp2_with fail
  go_ret2
  obtain rfl := Hss.out
  exact ⟨by simp, hb1.trans hb2⟩

end Go.Proofs.YtjacgdjnocpodaaGreatDoor
