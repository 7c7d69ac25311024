
/- The walks of validator.UseRange and quaysideref10.UseRange. -/
import Derived.Test.YtghaopeijncgaaaDoorEv3
namespace Go.Proofs.YtghaopeijncgaaaDoor
open Go.RowKit

def irN : ByteArray := ⟨#[105, 102, 45, 114, 97, 110, 103, 101]⟩
def urV (v : ByteArray) (st : St) : Bool := match tagS v with
  | some t => st.ex && st.ht && (!t.1 && !st.tw && eqT t.2 st.tt)
  | none => match dateP v with
    | some n => st.ex && st.hm && (n == st.md)
    | none => false
def urF (m : ByteArray) (fs : List Fd) (st : St) : Bool := (m.toList == [71, 69, 84]) && (match getO fs irN with | none => true | some v => urV v st)
theorem tagV_some (t : Bool × ByteArray) : tagV (some t) = .agg #[.bool t.1, .string t.2] := rfl
theorem tagV_none : tagV none = .agg #[.bool false, .string ⟨#[]⟩] := rfl
theorem errV_some (t : Bool × ByteArray) : errV (tagE (some t)) = .nilIface := rfl
theorem errV_none : errV (tagE (none : Option (Bool × ByteArray))) = .iface 34 (.int .i64 2) := rfl
theorem dpV_some (n : Int) : dpV (some n) = .tuple #[.int .i64 n, .nilIface] := rfl
theorem dpV_none : dpV none = .tuple #[.int .i64 0, .iface 34 (.int .i64 2)] := rfl
theorem ret_b {a b : Bool} (h : a = b) : Ending.returned (.bool a) = .returned (.bool b) := by rw [h]

set_option maxHeartbeats 16000000 in
set_option maxRecDepth 100000 in
theorem val_UseRange (m : ByteArray) (A : Option Addr) (n c : Nat) (fs : List Fd) (st : St) (w : World) (hf : RdF w A n fs)
    (hn : n ≤ 1073741824) (hsz : Bsz 1048576 fs) (hT : sumF fs + 2 * n ≤ 70368744177664) (hT2 : sumF fs + 2 * n ≤ 1048576) (hg : GlH w) :
    Calls Tryd.prog 28 #[.string m, .slice A n c, .agg (stArr st)] w fun e w' => e = .returned (.bool (urF m fs st)) ∧ Ext w w' := by
  have G1 := Lib.hid (fun w' (h : Ext w w') => field_GetO A n c fs irN w' (hf.ext h) hn (by decide) hsz hT)
  have V1 := Lib.hid (fun v h => Nat.le_trans (@getO_size fs irN v h n hf.lenF) hT2)
  obtain ⟨R, hR⟩ : ∃ R, urF m fs st = R := ⟨_, rfl⟩
  rw [hR]
  unfold urF at hR
  generalize getO fs irN = o1 at *
  obtain ⟨ex, ht, hm, tw, tt, md⟩ := st
  have hE0 := (Ext.refl w).alloc (.cells (stArr ⟨ex, ht, hm, tw, tt, md⟩) 61)
  have hB := Blk.new w 61 (stArr ⟨ex, ht, hm, tw, tt, md⟩)
  have HC := Lib.hid (show ∀ w', Ext (w.alloc (.cells (stArr ⟨ex, ht, hm, tw, tt, md⟩) 61)) w' → (w'.cell? ⟨w.heap.size, 0, none⟩ = some (.bool ex) ∧ w'.cell? ⟨w.heap.size, 1, none⟩ = some (.bool ht) ∧ w'.cell? ⟨w.heap.size, 2, none⟩ = some (.bool hm) ∧ w'.cell? ⟨w.heap.size, 3, none⟩ = some (.bool tw) ∧ w'.cell? ⟨w.heap.size, 4, none⟩ = some (.string tt) ∧ w'.cell? ⟨w.heap.size, 5, none⟩ = some (.int .i64 md)) ∧ w.heap.size < w'.heap.size from fun w' h => ⟨⟨(hB.ext h).cell 0, (hB.ext h).cell 1, (hB.ext h).cell 2, (hB.ext h).cell 3, (hB.ext h).cell 4, (hB.ext h).cell 5⟩, (hB.ext h).lt⟩)
  have HE := Lib.hid hE0
  clear hB hE0
  cases hG : (m.toList == [71, 69, 84])
  · rw [hG] at hR
    have HL := Lib.hid (show false = R from hR)
    clear hR
    go_enter Tryd.func28, Tryd.ntmps28
    go_wp2_with fail
    go_ret
    exact ⟨ret_b HL.out, HE.out⟩
  rw [hG, Bool.true_and] at hR
  have HR := Lib.hid hR; clear hR
  go_enter Tryd.func28, Tryd.ntmps28
  go_wp2_with fail
  refine (G1.out _ HE.out).mono ?_; rintro e w1 ⟨rfl, hb1⟩
  simp only [getV]
  cases o1 with
  | none =>
    have HL := Lib.hid (show true = R from HR.out)
    simp only [Option.getD_none, Option.isSome_none]
    go_wp2_with fail
    go_ret
    exact ⟨ret_b HL.out, HE.out.trans hb1⟩
  | some v =>
    simp only [Option.getD_some, Option.isSome_some]
    have hv := V1.out v rfl
    have HR := Lib.hid (show urV v ⟨ex, ht, hm, tw, tt, md⟩ = R from HR.out)
    unfold urV at HR
    have hP := fun w => http_Parse v w (Nat.le_trans hv (by decide))
    generalize dateP v = P at *
    have HP := Lib.hid hP; clear hP
    have hRd := fun w => val_ReadTag v w hv
    generalize tagS v = o2 at *
    have HRd := Lib.hid hRd; clear hRd
    go_wp2_with fail
    refine (HRd.out _).mono ?_; rintro e w2 ⟨rfl, hb2⟩
    have hE2 := hb1.trans hb2
    obtain ⟨⟨c0, c1, c2, c3, c4, c5⟩, hsz2⟩ := HC.out _ hE2
    cases o2 with
    | some t =>
      obtain ⟨kw, kt⟩ := t
      rw [tagV_some, errV_some]
      cases ex
      · have HL := Lib.hid (show false = R from HR.out)
        go_wp2_with fail
        go_ret
        exact ⟨ret_b HL.out, (HE.out.trans hE2).alloc _⟩
      · cases ht
        · have HL := Lib.hid (show false = R from HR.out)
          go_wp2_with fail
          go_ret
          exact ⟨ret_b HL.out, (HE.out.trans hE2).alloc _⟩
        · have HL := Lib.hid (show (!kw && !tw && eqT kt tt) = R from HR.out)
          go_wp2_with fail
          refine (val_Strong kw tw kt tt _).mono ?_; rintro e w3 ⟨rfl, hb3⟩
          go_wp2_with fail
          go_ret
          exact ⟨ret_b HL.out, ((HE.out.trans hE2).alloc _).trans hb3⟩
    | none =>
      rw [tagV_none, errV_none]
      go_wp2_with fail
      refine (HP.out _ (hg.ext ((HE.out.trans hE2).alloc _))).mono ?_; rintro e w3 ⟨rfl, hb3⟩
      have hE3 := (hE2.alloc _).trans hb3
      obtain ⟨⟨d0, d1, d2, d3, d4, d5⟩, hsz3⟩ := HC.out _ hE3
      cases P with
      | none =>
        have HL := Lib.hid (show false = R from HR.out)
        rw [dpV_none]
        go_wp2_with fail
        go_ret
        exact ⟨ret_b HL.out, HE.out.trans hE3⟩
      | some k =>
        have HL := Lib.hid (show (ex && hm && (k == md)) = R from HR.out)
        rw [dpV_some]
        cases ex
        · go_wp2_with fail
          go_ret
          exact ⟨ret_b HL.out, HE.out.trans hE3⟩
        · cases hm
          · go_wp2_with fail
            go_ret
            exact ⟨ret_b HL.out, HE.out.trans hE3⟩
          · go_wp2_with fail
            go_ret
            exact ⟨ret_b HL.out, HE.out.trans hE3⟩

set_option maxHeartbeats 16000000 in
set_option maxRecDepth 100000 in
theorem ref_UseRange (m : ByteArray) (A : Option Addr) (n c : Nat) (fs : List Fd) (st : St) (w : World) (hf : RdF w A n fs)
    (hn : n ≤ 1073741824) (hsz : Bsz 1048576 fs) (hT : sumF fs + 2 * n ≤ 70368744177664) (hT2 : sumF fs + 2 * n ≤ 1048576) :
    Calls Tryd.prog 29 #[.string m, .slice A n c, .agg (stArr st)] w fun e w' => e = .returned (.bool (urF m fs st)) ∧ Ext w w' := by
  have G1 := Lib.hid (fun w' (h : Ext w w') => ref_GetO A n c fs irN w' (hf.ext h) hn (by decide) hsz hT)
  have V1 := Lib.hid (fun v h => Nat.le_trans (@getO_size fs irN v h n hf.lenF) hT2)
  obtain ⟨R, hR⟩ : ∃ R, urF m fs st = R := ⟨_, rfl⟩
  rw [hR]
  unfold urF at hR
  generalize getO fs irN = o1 at *
  obtain ⟨ex, ht, hm, tw, tt, md⟩ := st
  have hE0 := (Ext.refl w).alloc (.cells (stArr ⟨ex, ht, hm, tw, tt, md⟩) 52)
  have hB := Blk.new w 52 (stArr ⟨ex, ht, hm, tw, tt, md⟩)
  have HC := Lib.hid (show ∀ w', Ext (w.alloc (.cells (stArr ⟨ex, ht, hm, tw, tt, md⟩) 52)) w' → (w'.cell? ⟨w.heap.size, 0, none⟩ = some (.bool ex) ∧ w'.cell? ⟨w.heap.size, 1, none⟩ = some (.bool ht) ∧ w'.cell? ⟨w.heap.size, 2, none⟩ = some (.bool hm) ∧ w'.cell? ⟨w.heap.size, 3, none⟩ = some (.bool tw) ∧ w'.cell? ⟨w.heap.size, 4, none⟩ = some (.string tt) ∧ w'.cell? ⟨w.heap.size, 5, none⟩ = some (.int .i64 md)) ∧ w.heap.size < w'.heap.size from fun w' h => ⟨⟨(hB.ext h).cell 0, (hB.ext h).cell 1, (hB.ext h).cell 2, (hB.ext h).cell 3, (hB.ext h).cell 4, (hB.ext h).cell 5⟩, (hB.ext h).lt⟩)
  have HE := Lib.hid hE0
  clear hB hE0
  cases hG : (m.toList == [71, 69, 84])
  · rw [hG] at hR
    have HL := Lib.hid (show false = R from hR)
    clear hR
    go_enter Tryd.func29, Tryd.ntmps29
    go_wp2_with fail
    go_ret
    exact ⟨ret_b HL.out, HE.out⟩
  rw [hG, Bool.true_and] at hR
  have HR := Lib.hid hR; clear hR
  go_enter Tryd.func29, Tryd.ntmps29
  go_wp2_with fail
  refine (G1.out _ HE.out).mono ?_; rintro e w1 ⟨rfl, hb1⟩
  simp only [getV]
  cases o1 with
  | none =>
    have HL := Lib.hid (show true = R from HR.out)
    simp only [Option.getD_none, Option.isSome_none]
    go_wp2_with fail
    go_ret
    exact ⟨ret_b HL.out, HE.out.trans hb1⟩
  | some v =>
    simp only [Option.getD_some, Option.isSome_some]
    have hv := V1.out v rfl
    have HR := Lib.hid (show urV v ⟨ex, ht, hm, tw, tt, md⟩ = R from HR.out)
    unfold urV at HR
    have hP := fun w => rd_Parse v w (Nat.le_trans hv (by decide))
    generalize dateP v = P at *
    have HP := Lib.hid hP; clear hP
    have hRd := fun w => ref_Read v w hv
    generalize tagS v = o2 at *
    have HRd := Lib.hid hRd; clear hRd
    go_wp2_with fail
    refine (HRd.out _).mono ?_; rintro e w2 ⟨rfl, hb2⟩
    have hE2 := hb1.trans hb2
    obtain ⟨⟨c0, c1, c2, c3, c4, c5⟩, hsz2⟩ := HC.out _ hE2
    cases o2 with
    | some t =>
      obtain ⟨kw, kt⟩ := t
      simp only [tagV_some, Option.isSome_some]
      cases ex
      · have HL := Lib.hid (show false = R from HR.out)
        go_wp2_with fail
        go_ret
        exact ⟨ret_b HL.out, (HE.out.trans hE2).alloc _⟩
      · cases ht
        · have HL := Lib.hid (show false = R from HR.out)
          go_wp2_with fail
          go_ret
          exact ⟨ret_b HL.out, (HE.out.trans hE2).alloc _⟩
        · have HL := Lib.hid (show (!kw && !tw && eqT kt tt) = R from HR.out)
          go_wp2_with fail
          refine (ref_Strong kw tw kt tt _).mono ?_; rintro e w3 ⟨rfl, hb3⟩
          go_wp2_with fail
          go_ret
          exact ⟨ret_b HL.out, ((HE.out.trans hE2).alloc _).trans hb3⟩
    | none =>
      simp only [tagV_none, Option.isSome_none]
      go_wp2_with fail
      refine (HP.out _).mono ?_; rintro e w3 ⟨⟨n2, rfl, hn2⟩, hb3⟩
      have hE3 := (hE2.alloc _).trans hb3
      obtain ⟨⟨d0, d1, d2, d3, d4, d5⟩, hsz3⟩ := HC.out _ hE3
      cases P with
      | none =>
        have HL := Lib.hid (show false = R from HR.out)
        simp only [Option.isSome_none]
        go_wp2_with fail
        go_ret
        exact ⟨ret_b HL.out, HE.out.trans hE3⟩
      | some k =>
        have HL := Lib.hid (show (ex && hm && (k == md)) = R from HR.out)
        obtain rfl := hn2 k rfl
        simp only [Option.isSome_some]
        cases ex
        · go_wp2_with fail
          go_ret
          exact ⟨ret_b HL.out, HE.out.trans hE3⟩
        · cases hm
          · go_wp2_with fail
            go_ret
            exact ⟨ret_b HL.out, HE.out.trans hE3⟩
          · go_wp2_with fail
            go_ret
            exact ⟨ret_b HL.out, HE.out.trans hE3⟩
end Go.Proofs.YtghaopeijncgaaaDoor
