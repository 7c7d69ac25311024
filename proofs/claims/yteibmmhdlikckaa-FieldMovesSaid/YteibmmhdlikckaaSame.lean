/- The walks of quaysideref02.Same and field.Same. -/
import Derived.Test.YteibmmhdlikckaaLaw2
import Derived.Test.YteibmmhdlikckaaPlain2
import Derived.Deep.RegionHeld3
namespace Go.Proofs.Yteibmmhdlikckaa
open Go.RowKit

theorem all_n {w : World} {A : Option Addr} {n N : Nat} {fs : List Fd} {name : ByteArray} (h : RdS w A n (allS fs name)) (hN : fs.length ≤ N) : n ≤ N := by
  have h1 := h.lenS
  have h2 := allS_len fs name fs.length
  rw [List.take_of_length_le (Nat.le_refl _)] at h2
  omega

theorem str_Equal (A A2 : Option Addr) (n c n2 c2 : Nat) (xs ys : List ByteArray) (w : World) (hx : RdS w A n xs) (hy : RdS w A2 n2 ys) (hn : n ≤ 9223372036854775807) (hn2 : n2 ≤ 9223372036854775807) :
    Calls Try.prog 30 #[.slice A n c, .slice A2 n2 c2] w fun e w' => e = .returned (.bool (decide (xs = ys))) ∧ Ext w w' := by
  have h1 := hx.lenS
  have h2 := hy.lenS
  by_cases hne : n = n2
  · subst hne
    by_cases h0 : 0 < n
    · obtain ⟨b, o, rfl, hc⟩ := hx.2 (by simp; omega)
      obtain ⟨b2, o2, rfl, hc2⟩ := hy.2 (by simp; omega)
      have hget : ∀ (l : List ByteArray) (j : Nat), j < l.length → (strCells l)[j]? = some (.string (l.getD j ByteArray.empty)) := fun l j hj => by
        simp [List.getD_eq_getElem?_getD, List.getElem?_eq_getElem hj]
      refine (Try.slices_Equal_string b o n c b2 o2 n c2 xs ys w (by omega) (by omega) hn hn (fun j hj => hc j _ (hget xs j hj)) (fun j hj => hc2 j _ (hget ys j hj))).mono fun e w' hh => ?_
      obtain ⟨he, q, rfl⟩ := hh
      rw [List.take_of_length_le (by omega), List.take_of_length_le (by omega)] at he
      exact ⟨he, (Ext.refl w).drewN q⟩
    · obtain rfl : n = 0 := by omega
      obtain rfl : xs = [] := List.eq_nil_of_length_eq_zero h1
      obtain rfl : ys = [] := List.eq_nil_of_length_eq_zero h2
      refine (Try.slices_Equal_string_empty A A2 c 0 c2 w hn2).mono fun e w' hh => ?_
      obtain ⟨he, rfl⟩ := hh
      exact ⟨by rw [he]; rfl, Ext.refl _⟩
  · refine (Try.slices_Equal_string_lens A A2 n c n2 c2 w hne).mono fun e w' hh => ?_
    obtain ⟨he, rfl⟩ := hh
    refine ⟨by rw [he, decide_eq_false]; intro h; subst h; omega, Ext.refl _⟩

set_option maxHeartbeats 4000000 in
theorem field_Same (A A2 : Option Addr) (n c n2 c2 : Nat) (fs gs : List Fd) (w : World) (hf : RdF w A n fs) (hg : RdF w A2 n2 gs)
    (hn : n ≤ 65536) (hn2 : n2 ≤ 65536) (hsz : Bsz 1073741824 fs) (hsz2 : Bsz 1073741824 gs) :
    Calls Try.prog 17 #[.slice A n c, .slice A2 n2 c2] w fun e w' => e = .returned (.bool (sameS fs gs)) ∧ Ext w w' := by
  have hl := hf.lenF
  have hl2 := hg.lenF
  by_cases hnn : n = n2
  · subst hnn
    go_enter Try.func17, Try.ntmps17
    have Hl := Lib.hid hl; clear hl
    have Hl2 := Lib.hid hl2; clear hl2
    go_wp2_with fail
    go_loopw [14] (fun i wr => ∃ k, k ≤ n ∧ i = .int .i64 (k : Nat) ∧ sameTo fs gs k = true ∧ Ext w wr) (fun i _ => n - (intOf i).toNat)
    case atStart => exact ⟨0, Nat.zero_le _, rfl, rfl, Ext.refl _⟩
    case round =>
      obtain ⟨k, hk, rfl, heq, hbr⟩ := hrel
      have Heq := Lib.hid heq; clear heq
      by_cases hlt : k < n
      · have hlt1 : k < fs.length := by have := Hl.out; omega
        have hF := hf.ext hbr
        have hG := hg.ext hbr
        obtain ⟨b, o, hA, hc0, hc1⟩ := hF.atF hlt1
        have hbd := (hsz.at_ hlt1).1
        have hb0 := World.block_lt_of_cell? _ _ hc0
        subst hA
        generalize hnm : fs[k].1 = nm at *
        generalize fs[k].2 = vl at *
        have Hnm := Lib.hid hnm; clear hnm
        go_wp2_with fail
        have hcell : (wr.alloc (Obj.cells #[Value.string nm, Value.string vl] 41)).cell? ⟨wr.heap.size, 0, none⟩ = some (.string nm) := by rw [World.cell?_alloc_mark]; rfl
        have hext : Ext wr (wr.alloc (Obj.cells #[Value.string nm, Value.string vl] 41)) := (Ext.refl _).alloc _
        generalize wr.alloc (Obj.cells #[Value.string nm, Value.string vl] 41) = WW at *
        have hF2 := hF.ext hext
        have hG2 := hG.ext hext
        have hblk := World.block_lt_of_cell? _ _ hcell
        generalize wr.heap.size = BB at *
        have hsA : ∀ f ∈ fs, f.1.size ≤ 9223372036854775807 := fun f hff => by have := (hsz f hff).1; omega
        have hsB : ∀ f ∈ gs, f.1.size ≤ 9223372036854775807 := fun f hff => by have := (hsz2 f hff).1; omega
        have HsA := Lib.hid hsA; have HsB := Lib.hid hsB; clear hsA hsB
        have hl65 : fs.length ≤ 65536 := by have := Hl.out; omega
        have hg65 : gs.length ≤ 65536 := by have := Hl2.out; omega
        go_region_held3 (fun w' => w'.cell? ⟨BB, 0, none⟩ = some (.string nm)) (first | exact hcell | exact hce2 | exact hce3 | exact hce4)
          (first
            | (go_at_call_of 14 (Value.slice (some ⟨b, o, none⟩) n c); refine (field_All _ _ _ fs nm _ ?_ (by omega) (by omega) HsA.out).mono ?_; exact hF2; rintro e w2 ⟨A3, n3, c3, rfl, hr3, hc3, hb2⟩; have hce2 := hb2.cell hcell)
            | (go_at_call_of 14 (Value.slice A2 n c2); refine (field_All _ _ _ gs nm _ ?_ (by omega) (by omega) HsB.out).mono ?_; exact hG2.drew.ext hb2; rintro e w3 ⟨A4, n4, c4, rfl, hr4, hc4, hb3⟩; have hn3 := all_n hr3 hl65; have hn4 := all_n hr4 hg65; have hce3 := hb3.cell hce2)
            | (go_at_call 30; refine (str_Equal _ _ _ _ _ _ _ _ _ (hr3.ext hb3) hr4 (by omega) (by omega)).mono ?_; rintro e w4 ⟨rfl, hb4⟩; have hce4 := hb4.cell hce3))
        all_goals
          have hb5 : Ext w w4 := (((hbr.trans hext).drew.trans hb2).trans hb3).trans hb4
          by_cases he : allS fs nm = allS gs nm
          · rw [decide_eq_true he]
            have Hst := Lib.hid (sameTo_step hlt1 Heq.out (by rw [Hnm.out]; exact he))
            clear he
            go_wp2
            go_roundw
            case rel => exact ⟨k + 1, by omega, by go_num, Hst.out, hb5⟩
            case measure => simp [intOf]; omega
          · rw [decide_eq_false he]
            have Hst := Lib.hid (sameS_no (a := fs) (b := gs) hlt1 (by rw [Hnm.out]; exact he))
            clear he
            go_wp2
            go_ret
            exact ⟨congrArg (fun x => Ending.returned (.bool x)) Hst.out, hb5⟩
      · obtain rfl : k = n := by omega
        have he := Hl.out
        have he2 := Hl2.out
        have Hend := Lib.hid (sameS_end (a := fs) (b := gs) (by omega) (by rw [he]; exact Heq.out))
        clear he he2
        go_wp2
        go_ret
        exact ⟨congrArg (fun x => Ending.returned (.bool x)) Hend.out, hbr⟩
  · have Hno := Lib.hid (sameS_len (a := fs) (b := gs) (by omega))
    clear hl hl2
    go_enter Try.func17, Try.ntmps17
    go_wp2
    go_ret
    exact ⟨congrArg (fun x => Ending.returned (.bool x)) Hno.out, Ext.refl _⟩
end Go.Proofs.Yteibmmhdlikckaa
