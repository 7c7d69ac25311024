
/- The walk of ValidatorLists: it returns true. -/
import Derived.Test.YtghaopeijncgaaaDoorL10a
namespace Go.Proofs.YtghaopeijncgaaaDoor
open Go.RowKit

theorem star_no {s : ByteArray} (h : tgO s = none) : isStar s = false := by
  cases hs : isStar s
  · rfl
  · unfold tgO at h; rw [hs, if_pos rfl] at h; cases h

set_option maxHeartbeats 2000000 in
set_option maxRecDepth 100000 in
theorem lists_walk (s : ByteArray) (w : World) (hs : s.size ≤ 140737488351232) :
    Calls Tryd.prog 4 #[.string s] w fun e w' => e = .returned (.bool true) ∧ Ext w w' := by
  go_enter Tryd.func4, Tryd.ntmps4
  go_wp2_with fail
  refine (law_awake _).mono ?_; rintro e w1 ⟨rfl, hb1⟩
  by_cases hl : s.size ≤ 1000
  · go_wp2_with fail
    refine (val_ReadTags s _ (by omega)).mono ?_; rintro e w2 ⟨A2, n2, c2, rfl, hr2, hc2, hn2, hb2⟩
    cases ho : tgO s with
    | none =>
      have hst := star_no ho
      rw [ho] at hr2
      obtain rfl : n2 = 0 := by have := hr2.lenT; simpa using this.symm
      rw [hst]
      rw [show errV (tgE none) = .iface 34 (.int .i64 2) from rfl]
      have Ho := Lib.hid ho; clear ho
      go_wp2_with fail
      refine (ref_ReadAll s _ (by omega)).mono ?_; rintro e w3 ⟨A3, n3, c3, rfl, hr3, hc3, hn3, hb3⟩
      rw [Ho.out, hst]
      rw [show (none : Option (List Tg)).isSome = false from rfl]
      clear hst
      go_wp2_with fail
      refine (base_Is 2 2 (by decide) (by decide) (by decide) _).mono ?_; rintro e w5 ⟨rfl, hb5⟩
      go_wp2_with fail
      go_ret
      exact ⟨rfl, ((hb1.trans hb2).trans hb3).trans hb5⟩
    | some L =>
      rw [ho] at hr2
      rw [show errV (tgE (some L)) = .nilIface from rfl]
      have Ho := Lib.hid ho; clear ho
      simp only [Option.getD_some] at hr2
      generalize hst : isStar s = st at *
      have Hst := Lib.hid hst; clear hst
      go_wp2_with fail
      refine (ref_ReadAll s _ (by omega)).mono ?_; rintro e w3 ⟨A3, n3, c3, rfl, hr3, hc3, hn3, hb3⟩
      rw [Ho.out, Hst.out]
      rw [show (some L).isSome = true from rfl]
      rw [Ho.out] at hr3
      simp only [Option.getD_some] at hr3
      have hl2 := hr2.lenT
      have hl3 := hr3.lenT
      obtain rfl : n2 = n3 := by omega
      have Hl := Lib.hid hl2; clear hl2 hl3
      have hr23 := hr2.ext hb3
      have hss : (st != st) = false := by cases st <;> rfl
      have hnn : ((n2 : Int) != (n2 : Int)) = false := by simp
      have hbw3 := (hb1.trans hb2).trans hb3
      go_wp2_with fail
      go_loopw [59] (fun i wr => ∃ k, k ≤ n2 ∧ i = .int .i64 (k : Nat) ∧ Ext w3 wr) (fun i _ => n2 - (intOf i).toNat)
      case atStart => exact ⟨0, Nat.zero_le _, rfl, Ext.refl _⟩
      case round =>
        obtain ⟨k, hk, rfl, hbr⟩ := hrel
        by_cases hlt : k < n2
        · have hlt' : k < L.length := by have := Hl.out; omega
          obtain ⟨b, o, rfl, hc0, hc1⟩ := (hr23.ext hbr).atT hlt'
          obtain ⟨b3, o3, rfl, hd0, hd1⟩ := (hr3.ext hbr).atT hlt'
          generalize L[k].1 = kw at *
          generalize L[k].2 = kt at *
          go_wp2_with fail
          go_region_held3 (fun w' => w'.cell? ⟨b, o + k * 2, none⟩ = some (.bool kw) ∧ w'.cell? ⟨b, o + k * 2 + 1, none⟩ = some (.string kt) ∧ w'.cell? ⟨b3, o3 + k * 2, none⟩ = some (.bool kw) ∧ w'.cell? ⟨b3, o3 + k * 2 + 1, none⟩ = some (.string kt)) (first | exact ⟨hc0, hc1, hd0, hd1⟩ | exact ⟨h4.cell hc0, h4.cell hc1, h4.cell hd0, h4.cell hd1⟩)
            (first
            | (go_at_call 14; refine (law_same kw kt _).mono ?_; rintro e w4 ⟨rfl, hb4⟩; have h4 := (Ext.refl wr).drew.trans hb4))
          all_goals
            go_wp2_with fail
            go_roundw
            case rel => exact ⟨k + 1, by omega, by go_num, hbr.trans h4⟩
            case measure => simp [intOf]; omega
        · obtain rfl : k = n2 := by omega
          go_wp2_with fail
          go_ret
          exact ⟨rfl, hbw3.trans hbr⟩
  · go_wp2_with fail
    refine (law_awake _).mono ?_; rintro e w2 ⟨rfl, hb2⟩
    go_wp2_with fail
    go_ret
    exact ⟨rfl, hb1.trans hb2⟩
end Go.Proofs.YtghaopeijncgaaaDoor
