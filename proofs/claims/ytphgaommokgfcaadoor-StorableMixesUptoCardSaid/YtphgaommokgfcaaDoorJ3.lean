/- The walks of storable.has, tag, modified, star. The walk of storable.Of. The walks of quaysidelaw15.large and loud. A region that draws its order, with loads that all come ahead of a store: what is to hold until that store has come up. Plain facts on regions, no program in sight. The walks of quaysidelaw15.of and awake. The walk of storable.Pass. The walk of StorablePasses. Arguments opened: a slice of pairs of strings, a slice of strings, as lists. Plain facts on readings. Arguments opened, with their bulk: a slice of strings, a slice of pairs of strings; the witness of a row that lists variables. Plain facts on readings. Listed variables: from a row's condition to what the walks ask of them. No condition. Listed variables: httpdate's tables out of a row's condition. No condition. The library's own variable that every call of the package needs, out of a world's shape. What the laws on a request and a response share. StorableForbids returns true. A slice of pairs of strings, opened, with its bulk. Plain facts on readings. Struct arguments opened: a request and a response; two truth values. Plain facts on readings. -/
import Derived.Test.YtphgaommokgfcaaDoorJ2
import Derived.Deep.RegionHeld
import Derived.ProofKit
import Derived.SizedLaws
import Derived.Deep.Slices
import Derived.Deep.Fields
import Derived.ChangeSame
import Derived.ShutString
import Derived.OpenShut
import Derived.Test.YtphgaommokgfcaaDoorRows
import Derived.SliceStrings
import Derived.Lay
import Derived.LaidOnce
import Derived.LaidMore
import Derived.Deep.DeepHandedRow
import Derived.MakeChecks
import Derived.FnData
import Derived.Lib.SmallJoins
set_option linter.unusedSimpArgs false
set_option linter.unusedVariables false
namespace Go.Proofs.YtphgaommokgfcaaDoor
open Go.RowKit

theorem len_all {w : World} {A : Option Addr} {n : Nat} {fs : List Fd} (hf : RdF w A n fs) (m : ByteArray) : (allS fs m).length ≤ n := by
  have := allS_len fs m n
  rw [List.take_of_length_le (by rw [hf.lenF]; exact Nat.le_refl _)] at this
  exact this
set_option maxHeartbeats 2000000 in
set_option maxRecDepth 100000 in
theorem sto_has (A : Option Addr) (n c : Nat) (fs : List Fd) (name : ByteArray) (w : World) (hf : RdF w A n fs)
    (hn : n ≤ 1073741824) (hs : name.size ≤ 9223372036854775807) (hsz : Bsz 1048576 fs) :
    Calls Tryd.prog 28 #[.slice A n c, .string name] w fun e w' => e = .returned (.bool (hasF fs name)) ∧ Ext w w' := by
  have HA := Lib.hid (field_All A n c fs name w hf hn hs (fun f hf => Nat.le_trans (hsz f hf).1 (by decide)))
  have hln := len_all hf name
  have Hh := Lib.hid (show hasF fs name = decide (0 < (allS fs name).length) from rfl)
  generalize hasF fs name = H at *
  generalize allS fs name = L at *
  go_enter Tryd.func28, Tryd.ntmps28
  go_wp2_with fail
  refine HA.out.mono ?_; rintro e w1 ⟨A1, n1, c1, rfl, hr1, hc1, hb1⟩
  have hl1 := hr1.lenS
  clear hr1
  by_cases hp : 0 < n1
  · have HL := Lib.hid (show true = H by rw [Hh.out, decide_eq_true (by omega)])
    have hn1 : n1 ≤ 1073741824 := by omega
    clear hl1 hln Hh
    go_wp2_with fail
    go_ret
    exact ⟨ret_b (by rw [← HL.out]), hb1⟩
  · have HL := Lib.hid (show false = H by rw [Hh.out, decide_eq_false (by omega)])
    obtain rfl : n1 = 0 := by omega
    clear hl1 hln Hh hp
    go_wp2_with fail
    go_ret
    exact ⟨ret_b (by rw [← HL.out]), hb1⟩

theorem oneT_no {l : List ByteArray} (h : l.length ≠ 1) : oneT l = none := by
  match l, h with
  | [], _ => rfl
  | [_], h => exact absurd rfl h
  | _ :: _ :: _, _ => rfl
set_option maxHeartbeats 2000000 in
set_option maxRecDepth 100000 in
theorem sto_tag (A : Option Addr) (n c : Nat) (fs : List Fd) (w : World) (hf : RdF w A n fs) (hn : n ≤ 1073741824) (hsz : Bsz 1048576 fs) :
    Calls Tryd.prog 30 #[.slice A n c] w fun e w' => e = .returned (.tuple #[tagV (tgF fs), .bool (tgF fs).isSome]) ∧ Ext w w' := by
  have HA := Lib.hid (fun w' (h : Ext w w') => field_All A n c fs etN w' (hf.ext h) hn (by decide) (fun f hf => Nat.le_trans (hsz f hf).1 (by decide)))
  have Hv := Lib.hid (bsz_vals (name := etN) hsz)
  have Hd := Lib.hid (show tgF fs = oneT (allS fs etN) from rfl)
  generalize tgF fs = D at *
  generalize allS fs etN = L at *
  have HZ := Lib.hid (Blk.new w 65 #[.bool false, .string ⟨#[]⟩])
  go_enter Tryd.func30, Tryd.ntmps30
  go_wp2_with fail
  refine (HA.out _ ((Ext.refl w).alloc (.cells #[.bool false, .string ⟨#[]⟩] 65))).mono ?_; rintro e w1 ⟨A1, n1, c1, rfl, hr1, hc1, hb1⟩
  have hl1 := hr1.lenS
  have HE1 := Lib.hid (((Ext.refl w).alloc (.cells #[.bool false, .string ⟨#[]⟩] 65)).trans hb1)
  have HZ1 := Lib.hid (HZ.out.ext hb1)
  clear HZ
  by_cases h1 : n1 = 1
  · subst h1
    match L, hl1 with
    | [v], _ =>
    obtain ⟨b, o, rfl, hc⟩ := hr1.atS (k := 0) Nat.one_pos
    rw [Nat.add_zero] at hc
    have hc : w1.cell? ⟨b, o, none⟩ = some (.string v) := hc
    have HD := Lib.hid (show D = tagS v from Hd.out)
    have Hvs := Lib.hid (Hv.out v (List.mem_cons_self ..))
    have hP := val_ReadTag v
    generalize tagS v = P at *
    have HP := Lib.hid hP; clear hP hl1
    go_wp2_with fail
    refine (HP.out _ Hvs.out).mono ?_; rintro e w2 ⟨rfl, hb2⟩
    have hE2 := HE1.out.trans hb2
    have HZ2 := Lib.hid (HZ1.out.ext hb2)
    cases P with
    | none =>
      have HD := Lib.hid (show Value.tuple #[.agg #[.bool false, .string ⟨#[]⟩], .bool false] = .tuple #[tagV D, .bool D.isSome] by rw [HD.out]; rfl)
      rw [show tagV none = .agg #[.bool false, .string ⟨#[]⟩] from rfl, show errV (tagE none) = .iface 44 (.int .i64 2) from rfl]
      go_wp2_with fail
      have HZ3 := Lib.hid (HZ2.out.alloc (.cells #[.bool false, .string ⟨#[]⟩] 65))
      have HN3 := Lib.hid (Blk.new w2 65 #[.bool false, .string ⟨#[]⟩])
      have hE3 := (hE2.alloc (.cells #[.bool false, .string ⟨#[]⟩] 65))
      generalize w2.alloc (.cells #[.bool false, .string ⟨#[]⟩] 65) = w3 at *
      generalize w2.heap.size = b2 at *
      have hle : w.heap.size ≤ w.heap.size := Nat.le_refl _
      generalize hb0 : w.heap.size = b0 at *
      have z0 : w3.cell? ⟨b0, 0, none⟩ = some (.bool false) := HZ3.out.cell 0
      have z1 : w3.cell? ⟨b0, 1, none⟩ = some (.string ⟨#[]⟩) := HZ3.out.cell 1
      have z2 : w3.frozen? ⟨b0, 0, none⟩ = false := HZ3.out.frozen 0
      have z3 : w3.frozen? ⟨b0, 1, none⟩ = false := HZ3.out.frozen 1
      have x0 : w3.cell? ⟨b2, 0, none⟩ = some (.bool false) := HN3.out.cell 0
      have x1 : w3.cell? ⟨b2, 1, none⟩ = some (.string ⟨#[]⟩) := HN3.out.cell 1
      have hY := (HZ3.out.set_ 0 (.bool false)).set_ 1 (.string ⟨#[]⟩)
      have hX := ((ExtB.refl b0 w3).set_ 0 (.bool false)).set_ 1 (.string ⟨#[]⟩)
      have y0 : ((w3.setCell ⟨b0, 0, none⟩ (.bool false)).setCell ⟨b0, 1, none⟩ (.string ⟨#[]⟩)).drew.cell? ⟨b0, 0, none⟩ = some (.bool false) := hY.cell 0
      have y1 : ((w3.setCell ⟨b0, 0, none⟩ (.bool false)).setCell ⟨b0, 1, none⟩ (.string ⟨#[]⟩)).drew.cell? ⟨b0, 1, none⟩ = some (.string ⟨#[]⟩) := hY.cell 1
      have HX := Lib.hid (hE3.growB hX (by omega)).drew
      clear hY hX hb0 hle
      go_region
      all_goals (try go_wp2_with fail)
      all_goals
        exact bodyPost_ret (v := .tuple #[.agg #[.bool false, .string ⟨#[]⟩], .bool false]) (by simp [results, Tryd.results30, go_sem, y0, y1]) rfl ⟨ret_v HD.out, HX.out⟩
    | some t =>
      obtain ⟨t1, t2⟩ := t
      have HD := Lib.hid (show Value.tuple #[.agg #[.bool t1, .string t2], .bool true] = .tuple #[tagV D, .bool D.isSome] by rw [HD.out]; rfl)
      rw [show tagV (some (t1, t2)) = .agg #[.bool t1, .string t2] from rfl, show errV (tagE (some (t1, t2))) = .nilIface from rfl]
      go_wp2_with fail
      have HZ3 := Lib.hid (HZ2.out.alloc (.cells #[.bool t1, .string t2] 65))
      have HN3 := Lib.hid (Blk.new w2 65 #[.bool t1, .string t2])
      have hE3 := (hE2.alloc (.cells #[.bool t1, .string t2] 65))
      generalize w2.alloc (.cells #[.bool t1, .string t2] 65) = w3 at *
      generalize w2.heap.size = b2 at *
      have hle : w.heap.size ≤ w.heap.size := Nat.le_refl _
      generalize hb0 : w.heap.size = b0 at *
      have z0 : w3.cell? ⟨b0, 0, none⟩ = some (.bool false) := HZ3.out.cell 0
      have z1 : w3.cell? ⟨b0, 1, none⟩ = some (.string ⟨#[]⟩) := HZ3.out.cell 1
      have z2 : w3.frozen? ⟨b0, 0, none⟩ = false := HZ3.out.frozen 0
      have z3 : w3.frozen? ⟨b0, 1, none⟩ = false := HZ3.out.frozen 1
      have x0 : w3.cell? ⟨b2, 0, none⟩ = some (.bool t1) := HN3.out.cell 0
      have x1 : w3.cell? ⟨b2, 1, none⟩ = some (.string t2) := HN3.out.cell 1
      have hY := (HZ3.out.set_ 0 (.bool t1)).set_ 1 (.string t2)
      have hX := ((ExtB.refl b0 w3).set_ 0 (.bool t1)).set_ 1 (.string t2)
      have y0 : ((w3.setCell ⟨b0, 0, none⟩ (.bool t1)).setCell ⟨b0, 1, none⟩ (.string t2)).drew.cell? ⟨b0, 0, none⟩ = some (.bool t1) := hY.cell 0
      have y1 : ((w3.setCell ⟨b0, 0, none⟩ (.bool t1)).setCell ⟨b0, 1, none⟩ (.string t2)).drew.cell? ⟨b0, 1, none⟩ = some (.string t2) := hY.cell 1
      have HX := Lib.hid (hE3.growB hX (by omega)).drew
      clear hY hX hb0 hle
      go_region
      all_goals (try go_wp2_with fail)
      all_goals
        exact bodyPost_ret (v := .tuple #[.agg #[.bool t1, .string t2], .bool true]) (by simp [results, Tryd.results30, go_sem, y0, y1]) rfl ⟨ret_v HD.out, HX.out⟩
  · have hz : ((n1 : Int) != 1) = true := by simp; omega
    have HD := Lib.hid (show Value.tuple #[.agg #[.bool false, .string ⟨#[]⟩], .bool false] = .tuple #[tagV D, .bool D.isSome] by rw [Hd.out, oneT_no (by omega)]; rfl)
    clear hl1 h1
    have z0 : w1.cell? ⟨w.heap.size, 0, none⟩ = some (.bool false) := HZ1.out.cell 0
    have z1 : w1.cell? ⟨w.heap.size, 1, none⟩ = some (.string ⟨#[]⟩) := HZ1.out.cell 1
    have z2 : w1.frozen? ⟨w.heap.size, 0, none⟩ = false := HZ1.out.frozen 0
    have z3 : w1.frozen? ⟨w.heap.size, 1, none⟩ = false := HZ1.out.frozen 1
    have hY := (HZ1.out.set_ 0 (.bool false)).set_ 1 (.string ⟨#[]⟩)
    have hX := ((ExtB.refl w.heap.size w1).set_ 0 (.bool false)).set_ 1 (.string ⟨#[]⟩)
    have y0 : ((w1.setCell ⟨w.heap.size, 0, none⟩ (.bool false)).setCell ⟨w.heap.size, 1, none⟩ (.string ⟨#[]⟩)).cell? ⟨w.heap.size, 0, none⟩ = some (.bool false) := hY.cell 0
    have y1 : ((w1.setCell ⟨w.heap.size, 0, none⟩ (.bool false)).setCell ⟨w.heap.size, 1, none⟩ (.string ⟨#[]⟩)).cell? ⟨w.heap.size, 1, none⟩ = some (.string ⟨#[]⟩) := hY.cell 1
    have HX := Lib.hid (HE1.out.growB hX (Nat.le_refl _))
    clear hY hX
    go_wp2_with fail
    exact bodyPost_ret (v := .tuple #[.agg #[.bool false, .string ⟨#[]⟩], .bool false]) (by simp [results, Tryd.results30, go_sem, y0, y1]) rfl ⟨ret_v HD.out, HX.out⟩

set_option maxHeartbeats 2000000 in
set_option maxRecDepth 100000 in
theorem sto_modified (A : Option Addr) (n c : Nat) (fs : List Fd) (w : World) (hf : RdF w A n fs) (hn : n ≤ 1073741824) (hsz : Bsz 1048576 fs) (hg : GlH w) :
    Calls Tryd.prog 42 #[.slice A n c] w fun e w' => e = .returned (.bool (dateS fs lmN).isSome) ∧ Ext w w' := by
  have HA := Lib.hid (field_All A n c fs lmN w hf hn (by decide) (fun f hf => Nat.le_trans (hsz f hf).1 (by decide)))
  have Hv := Lib.hid (bsz_vals (name := lmN) hsz)
  have Hd := Lib.hid (show dateS fs lmN = oneP (allS fs lmN) from rfl)
  generalize dateS fs lmN = D at *
  generalize allS fs lmN = L at *
  go_enter Tryd.func42, Tryd.ntmps42
  go_wp2_with fail
  refine HA.out.mono ?_; rintro e w1 ⟨A1, n1, c1, rfl, hr1, hc1, hb1⟩
  have hl1 := hr1.lenS
  by_cases h1 : n1 = 1
  · subst h1
    match L, hl1 with
    | [v], _ =>
    obtain ⟨b, o, rfl, hc⟩ := hr1.atS (k := 0) Nat.one_pos
    rw [Nat.add_zero] at hc
    have hc : w1.cell? ⟨b, o, none⟩ = some (.string v) := hc
    have HD := Lib.hid (show D = dateP v from Hd.out)
    have Hvs := Lib.hid (Hv.out v (List.mem_cons_self ..))
    have hP := http_Parse v
    generalize dateP v = P at *
    have HP := Lib.hid hP; clear hP hl1
    go_wp2_with fail
    refine (HP.out _ (by have := Hvs.out; omega) (hg.ext hb1)).mono ?_; rintro e w2 ⟨rfl, hb2⟩
    cases P with
    | none =>
      have HD := Lib.hid (show false = D.isSome by rw [HD.out]; rfl)
      rw [show dpV none = .tuple #[.int .i64 0, .iface 44 (.int .i64 2)] from rfl]
      go_wp2_with fail
      go_ret
      exact ⟨ret_b HD.out, hb1.trans hb2⟩
    | some k =>
      have HD := Lib.hid (show true = D.isSome by rw [HD.out]; rfl)
      rw [show dpV (some k) = .tuple #[.int .i64 k, .nilIface] from rfl]
      go_wp2_with fail
      go_ret
      exact ⟨ret_b HD.out, hb1.trans hb2⟩
  · have hz : ((n1 : Int) != 1) = true := by simp; omega
    have HD := Lib.hid (show false = D.isSome by rw [Hd.out, oneP_no (by omega)]; rfl)
    clear hl1 h1
    go_wp2_with fail
    go_ret
    exact ⟨ret_b HD.out, hb1⟩

theorem any_none {V : List ByteArray} {k : Nat} (hk : k < V.length) (h : (V.take k).any stE = false) (hx : stE V[k] = false) : (V.take (k + 1)).any stE = false := by
  rw [take_step V k hk, List.any_append, h]; simp [hx]
theorem any_some {V : List ByteArray} {k : Nat} (hk : k < V.length) (hx : stE V[k] = true) : true = V.any stE :=
  (List.any_eq_true.2 ⟨V[k], List.getElem_mem hk, hx⟩).symm
theorem stE_no {v : ByteArray} (h : partsS v 44 = none) : stE v = true := by unfold stE; rw [h]; rfl
theorem stE_yes {v : ByteArray} {P : List ByteArray} (h : partsS v 44 = some P) : stE v = hasS (itemsS v) starC := by unfold stE; rw [h]; rfl
set_option maxHeartbeats 2000000 in
set_option maxRecDepth 100000 in
theorem sto_star (A : Option Addr) (n c : Nat) (fs : List Fd) (w : World) (hf : RdF w A n fs) (hn : n ≤ 1073741824) (hsz : Bsz 1048576 fs) :
    Calls Tryd.prog 41 #[.slice A n c] w fun e w' => e = .returned (.bool (stF fs)) ∧ Ext w w' := by
  have HA := Lib.hid (field_All A n c fs vaN w hf hn (by decide) (fun f hf => Nat.le_trans (hsz f hf).1 (by decide)))
  have Hv := Lib.hid (bsz_vals (name := vaN) hsz)
  have Hln := Lib.hid (len_all hf vaN)
  have Hd := Lib.hid (show stF fs = (allS fs vaN).any stE from rfl)
  generalize stF fs = S at *
  generalize allS fs vaN = V at *
  go_enter Tryd.func41, Tryd.ntmps41
  go_wp2_with fail
  refine HA.out.mono ?_; rintro e w1 ⟨A1, n1, c1, rfl, hr1, hc1, hb1⟩
  have Hl1 := Lib.hid hr1.lenS
  have hn1 : n1 ≤ 1073741824 := by have := Hl1.out; have := Hln.out; omega
  go_wp2_with fail
  go_loopw [10] (fun i wr => ∃ k, k ≤ n1 ∧ i = .int .i64 (k : Nat) ∧ (V.take k).any stE = false ∧ Ext w1 wr) (fun i _ => n1 - (intOf i).toNat)
  case atStart => exact ⟨0, Nat.zero_le _, rfl, rfl, Ext.refl _⟩
  case round =>
    obtain ⟨k, hk, rfl, hall, hbr⟩ := hrel
    have Hall := Lib.hid hall; clear hall
    by_cases hlt : k < n1
    · have hlt' : k < V.length := by have := Hl1.out; omega
      obtain ⟨b, o, rfl, hc0⟩ := (hr1.ext hbr).atS hlt'
      have Hvs := Lib.hid (Hv.out V[k] (List.getElem_mem hlt'))
      have Hy := Lib.hid (fun h => Hd.out.trans (any_some hlt' h).symm)
      have Hz := Lib.hid (fun h => any_none hlt' Hall.out h)
      have Hno := Lib.hid (@stE_no V[k])
      have Hye := Lib.hid (fun P => @stE_yes V[k] P)
      generalize V[k] = x at *
      generalize stE x = X at *
      go_wp2_with fail
      refine (syntax_List x _ Hvs.out).mono ?_; rintro e w4 ⟨A4, n4, c4, rfl, hr4, hc4, hb4, hown4⟩
      clear hown4
      cases hp : partsS x 44 with
      | none =>
        have HS := Lib.hid (Hy.out (Hno.out hp)).symm; clear hp
        rw [show pE none = 2 from rfl, show errV 2 = .iface 44 (.int .i64 2) from rfl]
        go_wp2_with fail
        go_ret
        exact ⟨ret_b HS.out, hb1.trans (hbr.trans hb4)⟩
      | some P =>
        have HX := Lib.hid (Hye.out P hp); clear hp
        rw [show pE (some P) = 0 from rfl, show errV 0 = .nilIface from rfl]
        have hil := (items_all (s := x)).2
        have hl4 := hr4.lenS
        have Hv2 := Lib.hid (show n4 ≤ 9223372036854775807 by have := Hvs.out; omega)
        clear hil hl4
        generalize itemsS x = I at *
        have HC := Lib.hid (str_Contains A4 n4 c4 I starC _ hr4 Hv2.out)
        generalize hasS I starC = q at *
        have HX2 := Lib.hid HX.out
        clear HX
        cases q
        · have Hz2 := Lib.hid (Hz.out HX2.out)
          clear Hz Hy HX2
          go_wp2_with fail
          refine HC.out.mono ?_; rintro e w5 ⟨rfl, hb5⟩
          go_wp2_with fail
          go_roundw
          case rel => exact ⟨k + 1, by omega, by go_num, Hz2.out, hbr.trans (hb4.trans hb5)⟩
          case measure => simp [intOf]; omega
        · have HS := Lib.hid (Hy.out HX2.out).symm
          clear Hz Hy HX2
          go_wp2_with fail
          refine HC.out.mono ?_; rintro e w5 ⟨rfl, hb5⟩
          go_wp2_with fail
          go_ret
          exact ⟨ret_b HS.out, hb1.trans (hbr.trans (hb4.trans hb5))⟩
    · obtain rfl : k = n1 := by omega
      have he : V.take k = V := List.take_of_length_le (by have := Hl1.out; omega)
      have HS := Lib.hid (show false = S by rw [Hd.out, ← he]; exact Hall.out.symm)
      clear he hlt
      go_wp2_with fail
      go_ret
      exact ⟨ret_b HS.out, hb1.trans hbr⟩
end Go.Proofs.YtphgaommokgfcaaDoor

namespace Go.Proofs.YtphgaommokgfcaaDoor
open Go.RowKit

theorem tagV_shape (o : Option (Bool × ByteArray)) : ∃ a b, tagV o = .agg #[.bool a, .string b] := by
  cases o with
  | none => exact ⟨_, _, rfl⟩
  | some t => exact ⟨_, _, rfl⟩
theorem fld15_b0 (D : D) (w : World) : (Instr.field 72 (.agg (dArr D)) 0).run Tryd.prog w = .ok (.bool D.b0) w := by kernel_rfl
set_option maxHeartbeats 16000000 in
set_option maxRecDepth 100000 in
theorem sto_Of (me : ByteArray) (Aq : Option Addr) (nq cq : Nat) (rq : List Fd) (st : Int) (Ar : Option Addr) (nr cr : Nat) (rp : List Fd) (w : World) (hfq : RdF w Aq nq rq) (hfr : RdF w Ar nr rp) (hnq : nq ≤ 1073741824) (hnr : nr ≤ 1073741824) (hszq : Bsz 1048576 rq) (hszr : Bsz 1048576 rp) (hg : GlH w) (hT : sumF rp + 2 * nr ≤ 70368744177664) (hgl : Gl w) :
    Calls Tryd.prog 23 #[.string me, .slice Aq nq cq, .int .i64 st, .slice Ar nr cr] w fun e w' => e = .returned (.int .i64 (rsS (isG me) rq st rp)) ∧ Ext w w' := by
  have HP := Lib.hid (show Calls Tryd.prog 37 #[.slice Ar nr cr] w fun e w' => e = .returned (.agg (dArr (ccD rp))) ∧ Ext w w' from dir_Parse Ar nr cr rp w hfr hnr hszr hgl)
  have HQ := Lib.hid (fun w' (h : Ext w w') => show Calls Tryd.prog 37 #[.slice Aq nq cq] w' fun e w'' => e = .returned (.agg (dArr (ccD rq))) ∧ Ext w' w'' from dir_Parse Aq nq cq rq w' (hfq.ext h) hnq hszq (hgl.ext h))
  have HO := Lib.hid (fun w' (h : Ext w w') => life_Of st Ar nr cr rp w' (hfr.ext h) hnr hszr (hg.ext h) hT (hgl.ext h))
  have HTg := Lib.hid (fun w' (h : Ext w w') => sto_tag Ar nr cr rp w' (hfr.ext h) hnr hszr)
  have HC := Lib.hid (life_Cacheable st)
  have HX := Lib.hid (fun w' (h : Ext w w') => life_Explicit Ar nr cr rp w' (hfr.ext h) hnr hszr (hg.ext h) hT (hgl.ext h))
  have HS := Lib.hid (fun w' (h : Ext w w') => sto_has Ar nr cr rp scN w' (hfr.ext h) hnr (by decide) hszr)
  have HV := Lib.hid (fun w' (h : Ext w w') => sto_star Ar nr cr rp w' (hfr.ext h) hnr hszr)
  have HA := Lib.hid (fun w' (h : Ext w w') => sto_has Aq nq cq rq auN w' (hfq.ext h) hnq (by decide) hszq)
  have HM := Lib.hid (fun w' (h : Ext w w') => sto_modified Ar nr cr rp w' (hfr.ext h) hnr hszr (hg.ext h))
  have Hr := Lib.hid (show rsS (isG me) rq st rp = if !isG me then 1 else if !(!(decide (st < 200) || decide (599 < st) || st == 206 || st == 304 || (!cacS st && !xplS rp))) then 2
    else if (ccD rp).b0 || (ccD rq).b0 then 3 else if (ccD rp).b2 then 4 else if hasF rp scN then 5 else if stF rp then 6
    else if hasF rq auN && !((ccD rp).b3 || (ccD rp).b4 || decide (0 ≤ (ccD rp).n1)) then 7
    else if (ofS st rp).2 == 5 && !((tgF rp).isSome || (dateS rp lmN).isSome) then 8 else 0 from rfl)
  have hgg : (me.toList == [71, 69, 84]) = isG me := rfl
  obtain ⟨ta, tb, hta⟩ := tagV_shape (tgF rp)
  rw [hta] at HTg
  generalize rsS (isG me) rq st rp = R at *
  generalize isG me = G at *
  generalize ccD rp = D at *
  generalize ccD rq = Q at *
  generalize ofS st rp = K at *
  generalize (tgF rp).isSome = ts at *
  generalize (dateS rp lmN).isSome = M at *
  generalize cacS st = C at *
  generalize xplS rp = X at *
  generalize hasF rp scN = sc at *
  generalize stF rp = sf at *
  generalize hasF rq auN = au at *
  obtain ⟨k1, k2⟩ := K
  have HGG := Lib.hid hgg
  clear hgg hta
  have hq0 : ∀ w, (Instr.field 72 (.agg (dArr Q)) 0).run Tryd.prog w = .ok (.bool Q.b0) w := fun w => fld15_b0 Q w
  have hE1 : ∀ w1 wd, Ext w w1 → ExtB w1.heap.size (w1.alloc (.cells (dArr zeroD) 72)) wd → Ext w wd := fun w1 wd h k => (h.alloc _).growB k h.size
  have HE1 := Lib.hid hE1; clear hE1
  go_enter Tryd.func23, Tryd.ntmps23
  go_wp2_with fail
  refine HP.out.mono ?_; rintro e w1 ⟨rfl, hb1⟩
  go_wp2_with (first | (refine wpList_storeB rfl 72 (.tmp 9) (.tmp 15) rfl rfl w1.heap.size _ rfl rfl 72 _ (Blk.new w1 _ _) infoDp rfl (dArr_one D) ?_; intro wd hBd hxd))
  have h2 := HE1.out _ _ hb1 hxd
  have d0 : wd.cell? ⟨w1.heap.size, 0, none⟩ = some (.bool D.b0) := hBd.cell 0
  have d2 : wd.cell? ⟨w1.heap.size, 2, none⟩ = some (.bool D.b2) := hBd.cell 2
  have d3 : wd.cell? ⟨w1.heap.size, 3, none⟩ = some (.bool D.b3) := hBd.cell 3
  have d4 : wd.cell? ⟨w1.heap.size, 4, none⟩ = some (.bool D.b4) := hBd.cell 4
  have d7 : wd.cell? ⟨w1.heap.size, 7, none⟩ = some (.int .i64 D.n1) := hBd.cell 7
  clear hBd hxd
  generalize w1.heap.size = bd at *
  refine (HO.out _ h2).mono ?_; rintro e w3 ⟨rfl, hb3⟩
  have h3 := h2.trans hb3
  replace d0 := hb3.cell d0; replace d2 := hb3.cell d2; replace d3 := hb3.cell d3; replace d4 := hb3.cell d4; replace d7 := hb3.cell d7
  clear hb3 h2 hb1
  rw [show pairV (k1, k2) = .tuple #[.int .i64 k1, .int .i64 k2] from rfl]
  go_wp2_with fail
  refine (HTg.out _ h3).mono ?_; rintro e w4 ⟨rfl, hb4⟩
  have h4 := h3.trans hb4
  replace d0 := hb4.cell d0; replace d2 := hb4.cell d2; replace d3 := hb4.cell d3; replace d4 := hb4.cell d4; replace d7 := hb4.cell d7
  have h4 := h4.alloc (.cells #[.bool ta, .string tb] 65)
  replace d0 := ((Ext.refl w4).alloc (.cells #[.bool ta, .string tb] 65)).cell d0; replace d2 := ((Ext.refl w4).alloc (.cells #[.bool ta, .string tb] 65)).cell d2; replace d3 := ((Ext.refl w4).alloc (.cells #[.bool ta, .string tb] 65)).cell d3; replace d4 := ((Ext.refl w4).alloc (.cells #[.bool ta, .string tb] 65)).cell d4; replace d7 := ((Ext.refl w4).alloc (.cells #[.bool ta, .string tb] 65)).cell d7
  clear hb4 h3
  cases G
  · skip
    have hme : (me.toList == [71, 69, 84]) = false := HGG.out
    have HL := Lib.hid (show (1 : Int) = R by rw [Hr.out]; simp [])
    clear Hr
    go_wp2_with fail
    go_ret
    exact ⟨ret_i HL.out, h4⟩
  have hme : (me.toList == [71, 69, 84]) = true := HGG.out
  by_cases s0 : st < 200
  · skip
    have HL := Lib.hid (show (2 : Int) = R by rw [Hr.out]; simp [s0])
    clear Hr
    go_wp2_with fail
    go_ret
    exact ⟨ret_i HL.out, h4⟩
  by_cases s1 : 599 < st
  · skip
    have HL := Lib.hid (show (2 : Int) = R by rw [Hr.out]; simp [s0, s1])
    clear Hr
    go_wp2_with fail
    go_ret
    exact ⟨ret_i HL.out, h4⟩
  cases s2 : (st == 206)
  rotate_left
  · skip
    have HL := Lib.hid (show (2 : Int) = R by rw [Hr.out]; simp [s0, s1, s2])
    clear Hr
    go_wp2_with fail
    go_ret
    exact ⟨ret_i HL.out, h4⟩
  cases s3 : (st == 304)
  rotate_left
  · skip
    have HL := Lib.hid (show (2 : Int) = R by rw [Hr.out]; simp [s0, s1, s2, s3])
    clear Hr
    go_wp2_with fail
    go_ret
    exact ⟨ret_i HL.out, h4⟩
  go_wp2_with fail
  refine (HC.out _).mono ?_; rintro e w5 ⟨rfl, rfl⟩
  cases C
  rotate_left
  · skip
    cases h0 : D.b0
    rotate_left
    · skip
      have HL := Lib.hid (show (3 : Int) = R by rw [Hr.out]; simp [s0, s1, s2, s3, h0])
      clear Hr
      go_wp2_with fail
      go_ret
      exact ⟨ret_i HL.out, h4⟩
    rw [h0] at d0
    go_wp2_with fail
    refine (HQ.out _ h4).mono ?_; rintro e w20 ⟨rfl, hb20⟩
    have h20 := h4.trans hb20
    replace d0 := hb20.cell d0; replace d2 := hb20.cell d2; replace d3 := hb20.cell d3; replace d4 := hb20.cell d4; replace d7 := hb20.cell d7; clear hb20
    cases hq : Q.b0
    rotate_left
    · skip
      rw [hq] at hq0
      have HL := Lib.hid (show (3 : Int) = R by rw [Hr.out]; simp [s0, s1, s2, s3, h0, hq])
      clear Hr
      go_wp2_with fail
      go_ret
      exact ⟨ret_i HL.out, h20⟩
    rw [hq] at hq0
    cases hd2 : D.b2
    rotate_left
    · skip
      rw [hd2] at d2
      have HL := Lib.hid (show (4 : Int) = R by rw [Hr.out]; simp [s0, s1, s2, s3, h0, hq, hd2])
      clear Hr
      go_wp2_with fail
      go_ret
      exact ⟨ret_i HL.out, h20⟩
    rw [hd2] at d2
    go_wp2_with fail
    refine (HS.out _ h20).mono ?_; rintro e w21 ⟨rfl, hb21⟩
    have h21 := h20.trans hb21
    replace d0 := hb21.cell d0; replace d2 := hb21.cell d2; replace d3 := hb21.cell d3; replace d4 := hb21.cell d4; replace d7 := hb21.cell d7; clear hb21
    cases sc
    rotate_left
    · skip
      have HL := Lib.hid (show (5 : Int) = R by rw [Hr.out]; simp [s0, s1, s2, s3, h0, hq, hd2])
      clear Hr
      go_wp2_with fail
      go_ret
      exact ⟨ret_i HL.out, h21⟩
    go_wp2_with fail
    refine (HV.out _ h21).mono ?_; rintro e w22 ⟨rfl, hb22⟩
    have h22 := h21.trans hb22
    replace d0 := hb22.cell d0; replace d2 := hb22.cell d2; replace d3 := hb22.cell d3; replace d4 := hb22.cell d4; replace d7 := hb22.cell d7; clear hb22
    cases sf
    rotate_left
    · skip
      have HL := Lib.hid (show (6 : Int) = R by rw [Hr.out]; simp [s0, s1, s2, s3, h0, hq, hd2])
      clear Hr
      go_wp2_with fail
      go_ret
      exact ⟨ret_i HL.out, h22⟩
    go_wp2_with fail
    refine (HA.out _ h22).mono ?_; rintro e w23 ⟨rfl, hb23⟩
    have h23 := h22.trans hb23
    replace d0 := hb23.cell d0; replace d2 := hb23.cell d2; replace d3 := hb23.cell d3; replace d4 := hb23.cell d4; replace d7 := hb23.cell d7; clear hb23
    have hal : (au && !(D.b3 || D.b4 || decide (0 ≤ D.n1))) = true → au = true ∧ D.b3 = false ∧ D.b4 = false ∧ D.n1 < 0 := by intro h; simp at h; exact ⟨h.1, h.2.1.1, h.2.1.2, by omega⟩
    cases au
    · skip
      cases hk : (k2 == 5)
      · skip
        have HL := Lib.hid (show (0 : Int) = R by rw [Hr.out]; simp [s0, s1, s2, s3, h0, hq, hd2, hk])
        clear Hr
        go_wp2_with fail
        go_ret
        exact ⟨ret_i HL.out, h23⟩
      cases ts
      rotate_left
      · skip
        have HL := Lib.hid (show (0 : Int) = R by rw [Hr.out]; simp [s0, s1, s2, s3, h0, hq, hd2, hk])
        clear Hr
        go_wp2_with fail
        go_ret
        exact ⟨ret_i HL.out, h23⟩
      have hk5 : k2 = 5 := by simpa using hk
      go_wp2_with fail
      refine (HM.out _ h23).mono ?_; rintro e w30 ⟨rfl, hb30⟩
      have h30 := h23.trans hb30
      replace d0 := hb30.cell d0; replace d2 := hb30.cell d2; replace d3 := hb30.cell d3; replace d4 := hb30.cell d4; replace d7 := hb30.cell d7; clear hb30
      cases M
      · skip
        have HL := Lib.hid (show (8 : Int) = R by rw [Hr.out]; simp [s0, s1, s2, s3, h0, hq, hd2, hk])
        clear Hr
        go_wp2_with fail
        go_ret
        exact ⟨ret_i HL.out, h30⟩
      · skip
        have HL := Lib.hid (show (0 : Int) = R by rw [Hr.out]; simp [s0, s1, s2, s3, h0, hq, hd2, hk])
        clear Hr
        go_wp2_with fail
        go_ret
        exact ⟨ret_i HL.out, h30⟩
    cases h3 : D.b3
    rotate_left
    · skip
      rw [h3] at d3
      cases hk : (k2 == 5)
      · skip
        have HL := Lib.hid (show (0 : Int) = R by rw [Hr.out]; simp [s0, s1, s2, s3, h0, hq, hd2, h3, hk])
        clear Hr
        go_wp2_with fail
        go_ret
        exact ⟨ret_i HL.out, h23⟩
      cases ts
      rotate_left
      · skip
        have HL := Lib.hid (show (0 : Int) = R by rw [Hr.out]; simp [s0, s1, s2, s3, h0, hq, hd2, h3, hk])
        clear Hr
        go_wp2_with fail
        go_ret
        exact ⟨ret_i HL.out, h23⟩
      have hk5 : k2 = 5 := by simpa using hk
      go_wp2_with fail
      refine (HM.out _ h23).mono ?_; rintro e w30 ⟨rfl, hb30⟩
      have h30 := h23.trans hb30
      replace d0 := hb30.cell d0; replace d2 := hb30.cell d2; replace d3 := hb30.cell d3; replace d4 := hb30.cell d4; replace d7 := hb30.cell d7; clear hb30
      cases M
      · skip
        have HL := Lib.hid (show (8 : Int) = R by rw [Hr.out]; simp [s0, s1, s2, s3, h0, hq, hd2, h3, hk])
        clear Hr
        go_wp2_with fail
        go_ret
        exact ⟨ret_i HL.out, h30⟩
      · skip
        have HL := Lib.hid (show (0 : Int) = R by rw [Hr.out]; simp [s0, s1, s2, s3, h0, hq, hd2, h3, hk])
        clear Hr
        go_wp2_with fail
        go_ret
        exact ⟨ret_i HL.out, h30⟩
    rw [h3] at d3
    cases hd4 : D.b4
    rotate_left
    · skip
      rw [hd4] at d4
      cases hk : (k2 == 5)
      · skip
        have HL := Lib.hid (show (0 : Int) = R by rw [Hr.out]; simp [s0, s1, s2, s3, h0, hq, hd2, h3, hd4, hk])
        clear Hr
        go_wp2_with fail
        go_ret
        exact ⟨ret_i HL.out, h23⟩
      cases ts
      rotate_left
      · skip
        have HL := Lib.hid (show (0 : Int) = R by rw [Hr.out]; simp [s0, s1, s2, s3, h0, hq, hd2, h3, hd4, hk])
        clear Hr
        go_wp2_with fail
        go_ret
        exact ⟨ret_i HL.out, h23⟩
      have hk5 : k2 = 5 := by simpa using hk
      go_wp2_with fail
      refine (HM.out _ h23).mono ?_; rintro e w30 ⟨rfl, hb30⟩
      have h30 := h23.trans hb30
      replace d0 := hb30.cell d0; replace d2 := hb30.cell d2; replace d3 := hb30.cell d3; replace d4 := hb30.cell d4; replace d7 := hb30.cell d7; clear hb30
      cases M
      · skip
        have HL := Lib.hid (show (8 : Int) = R by rw [Hr.out]; simp [s0, s1, s2, s3, h0, hq, hd2, h3, hd4, hk])
        clear Hr
        go_wp2_with fail
        go_ret
        exact ⟨ret_i HL.out, h30⟩
      · skip
        have HL := Lib.hid (show (0 : Int) = R by rw [Hr.out]; simp [s0, s1, s2, s3, h0, hq, hd2, h3, hd4, hk])
        clear Hr
        go_wp2_with fail
        go_ret
        exact ⟨ret_i HL.out, h30⟩
    rw [hd4] at d4
    by_cases hn1 : D.n1 < 0
    rotate_left
    · skip
      have hn2 : 0 ≤ D.n1 := by omega
      cases hk : (k2 == 5)
      · skip
        have HL := Lib.hid (show (0 : Int) = R by rw [Hr.out]; simp [s0, s1, s2, s3, h0, hq, hd2, h3, hd4, hn2, hk])
        clear Hr
        go_wp2_with fail
        go_ret
        exact ⟨ret_i HL.out, h23⟩
      cases ts
      rotate_left
      · skip
        have HL := Lib.hid (show (0 : Int) = R by rw [Hr.out]; simp [s0, s1, s2, s3, h0, hq, hd2, h3, hd4, hn2, hk])
        clear Hr
        go_wp2_with fail
        go_ret
        exact ⟨ret_i HL.out, h23⟩
      have hk5 : k2 = 5 := by simpa using hk
      go_wp2_with fail
      refine (HM.out _ h23).mono ?_; rintro e w30 ⟨rfl, hb30⟩
      have h30 := h23.trans hb30
      replace d0 := hb30.cell d0; replace d2 := hb30.cell d2; replace d3 := hb30.cell d3; replace d4 := hb30.cell d4; replace d7 := hb30.cell d7; clear hb30
      cases M
      · skip
        have HL := Lib.hid (show (8 : Int) = R by rw [Hr.out]; simp [s0, s1, s2, s3, h0, hq, hd2, h3, hd4, hn2, hk])
        clear Hr
        go_wp2_with fail
        go_ret
        exact ⟨ret_i HL.out, h30⟩
      · skip
        have HL := Lib.hid (show (0 : Int) = R by rw [Hr.out]; simp [s0, s1, s2, s3, h0, hq, hd2, h3, hd4, hn2, hk])
        clear Hr
        go_wp2_with fail
        go_ret
        exact ⟨ret_i HL.out, h30⟩
    have hn2 : ¬ 0 ≤ D.n1 := by omega
    have HL := Lib.hid (show (7 : Int) = R by rw [Hr.out]; simp [s0, s1, s2, s3, h0, hq, hd2, h3, hd4, hn2])
    clear Hr
    go_wp2_with fail
    go_ret
    exact ⟨ret_i HL.out, h23⟩
  go_wp2_with fail
  refine (HX.out _ h4).mono ?_; rintro e w6 ⟨rfl, hb6⟩
  have h6 := h4.trans hb6
  replace d0 := hb6.cell d0; replace d2 := hb6.cell d2; replace d3 := hb6.cell d3; replace d4 := hb6.cell d4; replace d7 := hb6.cell d7; clear hb6
  cases X
  · skip
    have HL := Lib.hid (show (2 : Int) = R by rw [Hr.out]; simp [s0, s1, s2, s3])
    clear Hr
    go_wp2_with fail
    go_ret
    exact ⟨ret_i HL.out, h6⟩
  · skip
    cases h0 : D.b0
    rotate_left
    · skip
      have HL := Lib.hid (show (3 : Int) = R by rw [Hr.out]; simp [s0, s1, s2, s3, h0])
      clear Hr
      go_wp2_with fail
      go_ret
      exact ⟨ret_i HL.out, h6⟩
    rw [h0] at d0
    go_wp2_with fail
    refine (HQ.out _ h6).mono ?_; rintro e w20 ⟨rfl, hb20⟩
    have h20 := h6.trans hb20
    replace d0 := hb20.cell d0; replace d2 := hb20.cell d2; replace d3 := hb20.cell d3; replace d4 := hb20.cell d4; replace d7 := hb20.cell d7; clear hb20
    cases hq : Q.b0
    rotate_left
    · skip
      rw [hq] at hq0
      have HL := Lib.hid (show (3 : Int) = R by rw [Hr.out]; simp [s0, s1, s2, s3, h0, hq])
      clear Hr
      go_wp2_with fail
      go_ret
      exact ⟨ret_i HL.out, h20⟩
    rw [hq] at hq0
    cases hd2 : D.b2
    rotate_left
    · skip
      rw [hd2] at d2
      have HL := Lib.hid (show (4 : Int) = R by rw [Hr.out]; simp [s0, s1, s2, s3, h0, hq, hd2])
      clear Hr
      go_wp2_with fail
      go_ret
      exact ⟨ret_i HL.out, h20⟩
    rw [hd2] at d2
    go_wp2_with fail
    refine (HS.out _ h20).mono ?_; rintro e w21 ⟨rfl, hb21⟩
    have h21 := h20.trans hb21
    replace d0 := hb21.cell d0; replace d2 := hb21.cell d2; replace d3 := hb21.cell d3; replace d4 := hb21.cell d4; replace d7 := hb21.cell d7; clear hb21
    cases sc
    rotate_left
    · skip
      have HL := Lib.hid (show (5 : Int) = R by rw [Hr.out]; simp [s0, s1, s2, s3, h0, hq, hd2])
      clear Hr
      go_wp2_with fail
      go_ret
      exact ⟨ret_i HL.out, h21⟩
    go_wp2_with fail
    refine (HV.out _ h21).mono ?_; rintro e w22 ⟨rfl, hb22⟩
    have h22 := h21.trans hb22
    replace d0 := hb22.cell d0; replace d2 := hb22.cell d2; replace d3 := hb22.cell d3; replace d4 := hb22.cell d4; replace d7 := hb22.cell d7; clear hb22
    cases sf
    rotate_left
    · skip
      have HL := Lib.hid (show (6 : Int) = R by rw [Hr.out]; simp [s0, s1, s2, s3, h0, hq, hd2])
      clear Hr
      go_wp2_with fail
      go_ret
      exact ⟨ret_i HL.out, h22⟩
    go_wp2_with fail
    refine (HA.out _ h22).mono ?_; rintro e w23 ⟨rfl, hb23⟩
    have h23 := h22.trans hb23
    replace d0 := hb23.cell d0; replace d2 := hb23.cell d2; replace d3 := hb23.cell d3; replace d4 := hb23.cell d4; replace d7 := hb23.cell d7; clear hb23
    have hal : (au && !(D.b3 || D.b4 || decide (0 ≤ D.n1))) = true → au = true ∧ D.b3 = false ∧ D.b4 = false ∧ D.n1 < 0 := by intro h; simp at h; exact ⟨h.1, h.2.1.1, h.2.1.2, by omega⟩
    cases au
    · skip
      cases hk : (k2 == 5)
      · skip
        have HL := Lib.hid (show (0 : Int) = R by rw [Hr.out]; simp [s0, s1, s2, s3, h0, hq, hd2, hk])
        clear Hr
        go_wp2_with fail
        go_ret
        exact ⟨ret_i HL.out, h23⟩
      cases ts
      rotate_left
      · skip
        have HL := Lib.hid (show (0 : Int) = R by rw [Hr.out]; simp [s0, s1, s2, s3, h0, hq, hd2, hk])
        clear Hr
        go_wp2_with fail
        go_ret
        exact ⟨ret_i HL.out, h23⟩
      have hk5 : k2 = 5 := by simpa using hk
      go_wp2_with fail
      refine (HM.out _ h23).mono ?_; rintro e w30 ⟨rfl, hb30⟩
      have h30 := h23.trans hb30
      replace d0 := hb30.cell d0; replace d2 := hb30.cell d2; replace d3 := hb30.cell d3; replace d4 := hb30.cell d4; replace d7 := hb30.cell d7; clear hb30
      cases M
      · skip
        have HL := Lib.hid (show (8 : Int) = R by rw [Hr.out]; simp [s0, s1, s2, s3, h0, hq, hd2, hk])
        clear Hr
        go_wp2_with fail
        go_ret
        exact ⟨ret_i HL.out, h30⟩
      · skip
        have HL := Lib.hid (show (0 : Int) = R by rw [Hr.out]; simp [s0, s1, s2, s3, h0, hq, hd2, hk])
        clear Hr
        go_wp2_with fail
        go_ret
        exact ⟨ret_i HL.out, h30⟩
    cases h3 : D.b3
    rotate_left
    · skip
      rw [h3] at d3
      cases hk : (k2 == 5)
      · skip
        have HL := Lib.hid (show (0 : Int) = R by rw [Hr.out]; simp [s0, s1, s2, s3, h0, hq, hd2, h3, hk])
        clear Hr
        go_wp2_with fail
        go_ret
        exact ⟨ret_i HL.out, h23⟩
      cases ts
      rotate_left
      · skip
        have HL := Lib.hid (show (0 : Int) = R by rw [Hr.out]; simp [s0, s1, s2, s3, h0, hq, hd2, h3, hk])
        clear Hr
        go_wp2_with fail
        go_ret
        exact ⟨ret_i HL.out, h23⟩
      have hk5 : k2 = 5 := by simpa using hk
      go_wp2_with fail
      refine (HM.out _ h23).mono ?_; rintro e w30 ⟨rfl, hb30⟩
      have h30 := h23.trans hb30
      replace d0 := hb30.cell d0; replace d2 := hb30.cell d2; replace d3 := hb30.cell d3; replace d4 := hb30.cell d4; replace d7 := hb30.cell d7; clear hb30
      cases M
      · skip
        have HL := Lib.hid (show (8 : Int) = R by rw [Hr.out]; simp [s0, s1, s2, s3, h0, hq, hd2, h3, hk])
        clear Hr
        go_wp2_with fail
        go_ret
        exact ⟨ret_i HL.out, h30⟩
      · skip
        have HL := Lib.hid (show (0 : Int) = R by rw [Hr.out]; simp [s0, s1, s2, s3, h0, hq, hd2, h3, hk])
        clear Hr
        go_wp2_with fail
        go_ret
        exact ⟨ret_i HL.out, h30⟩
    rw [h3] at d3
    cases hd4 : D.b4
    rotate_left
    · skip
      rw [hd4] at d4
      cases hk : (k2 == 5)
      · skip
        have HL := Lib.hid (show (0 : Int) = R by rw [Hr.out]; simp [s0, s1, s2, s3, h0, hq, hd2, h3, hd4, hk])
        clear Hr
        go_wp2_with fail
        go_ret
        exact ⟨ret_i HL.out, h23⟩
      cases ts
      rotate_left
      · skip
        have HL := Lib.hid (show (0 : Int) = R by rw [Hr.out]; simp [s0, s1, s2, s3, h0, hq, hd2, h3, hd4, hk])
        clear Hr
        go_wp2_with fail
        go_ret
        exact ⟨ret_i HL.out, h23⟩
      have hk5 : k2 = 5 := by simpa using hk
      go_wp2_with fail
      refine (HM.out _ h23).mono ?_; rintro e w30 ⟨rfl, hb30⟩
      have h30 := h23.trans hb30
      replace d0 := hb30.cell d0; replace d2 := hb30.cell d2; replace d3 := hb30.cell d3; replace d4 := hb30.cell d4; replace d7 := hb30.cell d7; clear hb30
      cases M
      · skip
        have HL := Lib.hid (show (8 : Int) = R by rw [Hr.out]; simp [s0, s1, s2, s3, h0, hq, hd2, h3, hd4, hk])
        clear Hr
        go_wp2_with fail
        go_ret
        exact ⟨ret_i HL.out, h30⟩
      · skip
        have HL := Lib.hid (show (0 : Int) = R by rw [Hr.out]; simp [s0, s1, s2, s3, h0, hq, hd2, h3, hd4, hk])
        clear Hr
        go_wp2_with fail
        go_ret
        exact ⟨ret_i HL.out, h30⟩
    rw [hd4] at d4
    by_cases hn1 : D.n1 < 0
    rotate_left
    · skip
      have hn2 : 0 ≤ D.n1 := by omega
      cases hk : (k2 == 5)
      · skip
        have HL := Lib.hid (show (0 : Int) = R by rw [Hr.out]; simp [s0, s1, s2, s3, h0, hq, hd2, h3, hd4, hn2, hk])
        clear Hr
        go_wp2_with fail
        go_ret
        exact ⟨ret_i HL.out, h23⟩
      cases ts
      rotate_left
      · skip
        have HL := Lib.hid (show (0 : Int) = R by rw [Hr.out]; simp [s0, s1, s2, s3, h0, hq, hd2, h3, hd4, hn2, hk])
        clear Hr
        go_wp2_with fail
        go_ret
        exact ⟨ret_i HL.out, h23⟩
      have hk5 : k2 = 5 := by simpa using hk
      go_wp2_with fail
      refine (HM.out _ h23).mono ?_; rintro e w30 ⟨rfl, hb30⟩
      have h30 := h23.trans hb30
      replace d0 := hb30.cell d0; replace d2 := hb30.cell d2; replace d3 := hb30.cell d3; replace d4 := hb30.cell d4; replace d7 := hb30.cell d7; clear hb30
      cases M
      · skip
        have HL := Lib.hid (show (8 : Int) = R by rw [Hr.out]; simp [s0, s1, s2, s3, h0, hq, hd2, h3, hd4, hn2, hk])
        clear Hr
        go_wp2_with fail
        go_ret
        exact ⟨ret_i HL.out, h30⟩
      · skip
        have HL := Lib.hid (show (0 : Int) = R by rw [Hr.out]; simp [s0, s1, s2, s3, h0, hq, hd2, h3, hd4, hn2, hk])
        clear Hr
        go_wp2_with fail
        go_ret
        exact ⟨ret_i HL.out, h30⟩
    have hn2 : ¬ 0 ≤ D.n1 := by omega
    have HL := Lib.hid (show (7 : Int) = R by rw [Hr.out]; simp [s0, s1, s2, s3, h0, hq, hd2, h3, hd4, hn2])
    clear Hr
    go_wp2_with fail
    go_ret
    exact ⟨ret_i HL.out, h23⟩
end Go.Proofs.YtphgaommokgfcaaDoor

namespace Go.Proofs.YtphgaommokgfcaaDoor
open Go.RowKit

/-! Lists of lists of fields. -/
abbrev Sl := (Option Addr × Nat × Nat) × List Fd
def slV (t : Sl) : Value := .slice t.1.1 t.1.2.1 t.1.2.2
def one15 (t : Sl) : Nat := 2 * t.2.length + sumF t.2
def tot15 (Ls : List Sl) : Nat := (Ls.map one15).sum
theorem tot15_step {Ls : List Sl} {k : Nat} (h : k < Ls.length) : tot15 (Ls.take (k + 1)) = tot15 (Ls.take k) + one15 Ls[k] := by
  unfold tot15; rw [take_step Ls k h, List.map_append, List.sum_append]; simp
theorem tot15_le {Ls : List Sl} {k : Nat} (h : k < Ls.length) : tot15 (Ls.take k) + one15 Ls[k] ≤ tot15 Ls := by
  rw [← tot15_step h]
  have : tot15 Ls = tot15 (Ls.take (k + 1)) + tot15 (Ls.drop (k + 1)) := by
    conv => lhs; rw [← List.take_append_drop (k + 1) Ls]
    unfold tot15; rw [List.map_append, List.sum_append]
  omega
theorem Rd.atSl {w : World} {A : Option Addr} {n : Nat} {Ls : List Sl} (h : Rd w 1 A n (Ls.map slV)) {k : Nat} (hk : k < Ls.length) :
    ∃ b o, A = some ⟨b, o, none⟩ ∧ w.cell? ⟨b, o + k, none⟩ = some (slV Ls[k]) := by
  have hn : Ls.length = n := by have := h.1; simp at this; exact this
  obtain ⟨b, o, e, hc⟩ := h.2 (by simp; omega)
  exact ⟨b, o, e, hc k _ (by rw [List.getElem?_map, List.getElem?_eq_getElem hk]; rfl)⟩
theorem bsz_of_sumF15 : ∀ (fs : List Fd), Bsz (sumF fs) fs
  | [] => fun f hf => by cases hf
  | x :: l => fun f hf => by
    have hs : sumF (x :: l) = x.1.size + x.2.size + sumF l := by simp [sumF]
    rcases List.mem_cons.1 hf with rfl | hf
    · omega
    · have := bsz_of_sumF15 l f hf
      omega
theorem sumF_app15 (fs gs : List Fd) : sumF (fs ++ gs) = sumF fs + sumF gs := by simp [sumF]
set_option maxHeartbeats 4000000 in
set_option maxRecDepth 100000 in
theorem law15_large (A : Option Addr) (n c : Nat) (Ls : List Sl) (w : World) (hr : Rd w 1 A n (Ls.map slV)) (hL : ∀ t ∈ Ls, RdF w t.1.1 t.1.2.1 t.2) (hb : tot15 Ls ≤ 8388608) (hn : n ≤ 1048576) :
    Calls Tryd.prog 9 #[.slice A n c] w fun e w' => e = .returned (.bool (decide (4000 < tot15 Ls))) ∧ Ext w w' := by
  have hl : Ls.length = n := by have := hr.1; simp at this; exact this
  have Hl := Lib.hid hl; clear hl
  go_enter Tryd.func9, Tryd.ntmps9
  go_wp2_with fail
  go_loopw [3, 10] (fun v i wr => ∃ k z, k ≤ n ∧ i = .int .i64 (k : Nat) ∧ v = .int .i64 (z : Nat) ∧ z = tot15 (Ls.take k) ∧ z ≤ 8388608 ∧ Ext w wr) (fun _ i _ => n - (intOf i).toNat)
  case atStart => exact ⟨0, 0, Nat.zero_le _, rfl, rfl, rfl, by omega, Ext.refl _⟩
  case round =>
    obtain ⟨k, z, hk, rfl, rfl, hz, hz2, hbr⟩ := hrel
    have Hz := Lib.hid hz; clear hz
    by_cases hlt : k < n
    · have hlt' : k < Ls.length := by have := Hl.out; omega
      obtain ⟨b, o, rfl, hc0⟩ := (hr.ext hbr).atSl hlt'
      have Hst := Lib.hid (tot15_step hlt')
      have Hm := Lib.hid (show z + one15 Ls[k] ≤ 8388608 by rw [Hz.out]; exact Nat.le_trans (tot15_le hlt') hb)
      have HF := Lib.hid (hL _ (List.getElem_mem hlt'))
      generalize Ls[k] = x at *
      obtain ⟨⟨A2, n2, c2⟩, fs⟩ := x
      replace hc0 : wr.cell? ⟨b, o + k, none⟩ = some (.slice A2 n2 c2) := hc0
      have hF : RdF w A2 n2 fs := HF.out
      have hl2 := hF.lenF
      have Hl2 := Lib.hid hl2
      have Hm2 : z + (2 * fs.length + sumF fs) ≤ 8388608 := Hm.out
      have hm2 := Lib.hid Hm2
      have hn2 : n2 ≤ 8388608 := by omega
      have hsz := bsz_of_sumF15 fs
      clear hl2 Hm2 Hm HF
      have Hst2 := Lib.hid (show tot15 (Ls.take (k + 1)) = z + (2 * fs.length + sumF fs) from by rw [Hst.out, ← Hz.out]; rfl)
      clear Hst
      go_wp2_with fail
      obtain ⟨wq, hwq⟩ : ∃ wq : World, wq = wr := ⟨_, rfl⟩
      clear hwq
      go_loopw [3, 16] (fun v i wi => ∃ j y, j ≤ n2 ∧ i = .int .i64 (j : Nat) ∧ v = .int .i64 (y : Nat) ∧ y = z + 2 * j + sumF (fs.take j) ∧ y ≤ 8388608 ∧ Ext w wi) (fun _ i _ => n2 - (intOf i).toNat)
      case atStart => exact ⟨0, z, Nat.zero_le _, rfl, rfl, by simp [sumF], by omega, hbr⟩
      case round =>
        obtain ⟨j, y, hj, rfl, rfl, hy, hy2, hbi⟩ := hrel
        have Hy := Lib.hid hy; clear hy
        by_cases hjt : j < n2
        · have hjt' : j < fs.length := by have := Hl2.out; omega
          obtain ⟨b2, o2, rfl, hd0, hd1⟩ := (hF.ext hbi).atF hjt'
          have hm : sumF (fs.take j) + (fs[j].1.size + fs[j].2.size) ≤ sumF fs := by
            rw [← sumF_step hjt']
            have := sumF_app15 (fs.take (j + 1)) (fs.drop (j + 1))
            rw [List.take_append_drop] at this
            omega
          have Hst := Lib.hid (sumF_step hjt')
          have Hy3 := Lib.hid (show y + (2 + fs[j].1.size + fs[j].2.size) ≤ 8388608 by have := Hy.out; have := hm2.out; have := Hl2.out; omega)
          have h1 : fs[j].1.size ≤ 8388608 := by have := Hy3.out; omega
          have h2 : fs[j].2.size ≤ 8388608 := by have := Hy3.out; omega
          clear hm
          generalize fs[j].1 = nm at *
          generalize fs[j].2 = vl at *
          go_wp2_with fail
          go_roundw
          case rel => exact ⟨j + 1, y + (2 + nm.size + vl.size), by omega, by go_num, by go_num, by rw [Hst.out, Hy.out]; omega, Hy3.out, hbi.alloc _⟩
          case measure => simp [intOf]; omega
        · obtain rfl : j = n2 := by omega
          have He := Lib.hid (show y = tot15 (Ls.take (k + 1)) by rw [Hst2.out, Hy.out, List.take_of_length_le (by have := Hl2.out; omega), ← Hl2.out]; omega)
          clear Hy hjt
          go_wp2_with fail
          go_roundw
          case rel => exact ⟨k + 1, y, by omega, by go_num, rfl, He.out, hy2, hbi⟩
          case measure => simp [intOf]; omega
    · obtain rfl : k = n := by omega
      have He := Lib.hid (show decide (4000 < tot15 Ls) = decide (4000 < z) by rw [Hz.out, List.take_of_length_le (by have := Hl.out; omega)])
      go_wp2_with fail
      go_ret
      exact ⟨congrArg (fun x => Ending.returned (.bool x)) (by rw [He.out]; (try simp); (try omega)), hbr⟩

/-! Names in upper case. -/
def mapAt (f : UInt8 → UInt8) (s : ByteArray) (k j : Nat) : Int := if j < k then (f (s.data.toList.getD j 0)).toNat else (s.data.toList.getD j 0).toNat
theorem mapAt_zero (f : UInt8 → UInt8) (s : ByteArray) (j : Nat) (h : j < s.data.toList.length) : mapAt f s 0 j = (s.data.toList[j].toNat : Int) := by
  simp [mapAt, List.getD_eq_getElem?_getD, List.getElem?_eq_getElem h]
theorem mapAt_self (f : UInt8 → UInt8) (s : ByteArray) (k : Nat) : mapAt f s k k = (s.data.toList.getD k 0).toNat := by simp [mapAt]
theorem mapAt_same (f : UInt8 → UInt8) (s : ByteArray) (k j : Nat) (h : j ≠ k) : mapAt f s (k + 1) j = mapAt f s k j := by
  unfold mapAt
  by_cases h1 : j < k
  · rw [if_pos h1, if_pos (by omega)]
  · rw [if_neg h1, if_neg (by omega)]
theorem mapAt_next (f : UInt8 → UInt8) (s : ByteArray) (k : Nat) : mapAt f s (k + 1) k = (f (s.data.toList.getD k 0)).toNat := by simp [mapAt]
theorem mapAt_end (f : UInt8 → UInt8) (s : ByteArray) (k j : Nat) (h : j < k) (hj : j < (s.data.toList.map f).length) : mapAt f s k j = ((s.data.toList.map f)[j].toNat : Int) := by
  have hj' : j < s.data.toList.length := by simpa using hj
  rw [mapAt, if_pos h, List.getD_eq_getElem?_getD, List.getElem?_eq_getElem hj']
  simp
theorem map_step_yes {f : UInt8 → UInt8} {s : ByteArray} {k B : Nat} {wr : World} {v : Int} (lt : k < s.size) (hc : ∀ j, j < s.size → wr.cell? ⟨B, j, none⟩ = some (.int .u8 (mapAt f s k j)))
    (hf : ∀ j, j < s.size → wr.frozen? ⟨B, j, none⟩ = false) (hy : ((f s.data[k]).toNat : Int) = v) :
    (∀ j, j < s.size → (wr.setCell ⟨B, k, none⟩ (.int .u8 v)).cell? ⟨B, j, none⟩ = some (.int .u8 (mapAt f s (k + 1) j))) ∧
    (∀ j, j < s.size → (wr.setCell ⟨B, k, none⟩ (.int .u8 v)).frozen? ⟨B, j, none⟩ = false) := by
  refine ⟨fun j hj => ?_, fun j hj => by rw [World.frozen?_setCell]; exact hf j hj⟩
  by_cases hjk : j = k
  · subst hjk
    rw [World.cell?_setCell_same _ _ _ (hc j hj), mapAt_next, List.getD_eq_getElem?_getD, List.getElem?_eq_getElem (show j < s.data.toList.length from hj)]
    simp only [Option.getD_some, Array.getElem_toList]
    rw [hy]
  · rw [World.cell?_setCell_other _ _ _ _ (by intro e; injection e with _ e; exact hjk e.symm), hc j hj, mapAt_same f s k j hjk]
theorem map_step_no {f : UInt8 → UInt8} {s : ByteArray} {k B : Nat} {wr : World} (lt : k < s.size) (hc : ∀ j, j < s.size → wr.cell? ⟨B, j, none⟩ = some (.int .u8 (mapAt f s k j)))
    (hn : f s.data[k] = s.data[k]) : ∀ j, j < s.size → wr.cell? ⟨B, j, none⟩ = some (.int .u8 (mapAt f s (k + 1) j)) := by
  intro j hj
  by_cases hjk : j = k
  · subst hjk
    rw [hc j hj, mapAt_next, mapAt_self, List.getD_eq_getElem?_getD, List.getElem?_eq_getElem (show j < s.data.toList.length from hj)]
    simp only [Option.getD_some, Array.getElem_toList]
    rw [hn]
  · rw [hc j hj, mapAt_same f s k j hjk]
theorem upC_yes (c : UInt8) (h1 : (97 : Int) ≤ c.toNat) (h2 : (c.toNat : Int) ≤ 122) : ((upC c).toNat : Int) = c.toNat - 32 := by
  have h : (97 ≤ c && c ≤ 122) = true := by simp [UInt8.le_iff_toNat_le]; omega
  rw [upC, if_pos h, UInt8.toNat_sub]
  simp
  omega
theorem upC_no (c : UInt8) (h : ¬ ((97 : Int) ≤ c.toNat ∧ (c.toNat : Int) ≤ 122)) : upC c = c := by
  have h : ¬ (97 ≤ c && c ≤ 122) = true := by simp [UInt8.le_iff_toNat_le]; omega
  rw [upC, if_neg h]
theorem own_lo {w : World} {base e k n m c : Nat} {A : Option Addr} {xs : List Value} (h : w.ownsRow base e k (.slice A n c) m xs) : ∀ a, A = some a → base ≤ a.block := by
  intro a ha
  rcases h.2 with ⟨hv, _⟩ | ⟨g, cap, cur, hv, hb, _⟩
  · injection hv with h1; rw [ha] at h1; cases h1
  · injection hv with h1; rw [ha] at h1; injection h1 with h1; rw [h1]; exact hb
theorem loud_step {fs : List Fd} {k : Nat} (h : k < fs.length) : loudS (fs.take (k + 1)) = loudS (fs.take k) ++ [(upS (lowS fs[k].1), fs[k].2)] := by
  unfold loudS; rw [take_step fs k h, List.map_append]; rfl
set_option maxHeartbeats 4000000 in
set_option maxRecDepth 100000 in
theorem law15_loud (A : Option Addr) (n c : Nat) (fs : List Fd) (w : World) (hf : RdF w A n fs) (hn : n ≤ 1073741824) (hsz : Bsz 1048576 fs) :
    Calls Tryd.prog 13 #[.slice A n c] w fun e w' => ∃ A' c', e = .returned (.slice A' n c') ∧ RdF w' A' n (loudS fs) ∧ n ≤ c' ∧ Ext w w' ∧ ∀ a, A' = some a → w.heap.size ≤ a.block := by
  have Hl := Lib.hid hf.lenF
  go_enter Tryd.func13, Tryd.ntmps13
  go_wp2_with fail
  go_loopw [3, 10] (fun v i wr => ∃ k A' c', k ≤ n ∧ i = .int .i64 (k : Nat) ∧ v = .slice A' k c' ∧ wr.ownsRow w.heap.size 28 2 (.slice A' k c') k (fldCells (loudS (fs.take k))) ∧ k ≤ c' ∧ Ext w wr) (fun _ i _ => n - (intOf i).toNat)
  case atStart => exact ⟨0, none, 0, Nat.zero_le _, rfl, rfl, World.ownsRow_nil _ _ _ _, Nat.le_refl _, Ext.refl _⟩
  case round =>
    obtain ⟨k, A', c', hk, rfl, rfl, hown, hmc, hbr⟩ := hrel
    by_cases hlt : k < n
    · have hlt' : k < fs.length := by have := Hl.out; omega
      obtain ⟨b, o, rfl, hc0, hc1⟩ := (hf.ext hbr).atF hlt'
      have hbd := (hsz.at_ hlt').1
      have Hst := Lib.hid (loud_step hlt')
      generalize fs[k].1 = nm at *
      generalize fs[k].2 = vl at *
      have hbs := fun w => run_bytes_of_string (P := Tryd.prog) w 9 59 5 (lowS nm) Tryd.underlying9 Tryd.underlying59 Tryd.underlying5
      have hsz0 : (lowS nm).size ≤ 1048576 := by rw [lowS_size]; exact hbd
      go_wp2_with (first
        | (go_at_call 25; refine (ref_Lower _ _ (by omega)).mono ?_; rintro e w2 ⟨rfl, hb2⟩))
      clear hbs
      have x1 := hb2.cell (show (wr.alloc (.cells #[.string nm, .string vl] 28)).cell? ⟨wr.heap.size, 1, none⟩ = some (.string vl) from (Blk.new wr 28 #[.string nm, .string vl]).cell 1)
      have hbr2 := (hbr.alloc (.cells #[.string nm, .string vl] 28)).trans hb2
      have Hown2 := Lib.hid (own_ext (hown.alloc (.cells #[.string nm, .string vl] 28)) hb2)
      clear hb2 hown hbr
      generalize lowS nm = s at *
      generalize hcap : grownCap w2 s.size 0 5 = cap
      have hcs : s.size ≤ cap := by rw [← hcap]; exact grownCap_ge _ _ _ _
      clear hcap
      obtain ⟨wq, hwq⟩ : ∃ wq : World, wq = wr := ⟨_, rfl⟩
      go_loopw [20] (fun i wi => ∃ j : Nat, j ≤ s.size ∧ i = .int .i64 j ∧ Ext w2 wi ∧ (∀ q, q < s.size → wi.cell? ⟨w2.heap.size, q, none⟩ = some (.int .u8 (mapAt upC s j q))) ∧ (∀ q, q < s.size → wi.frozen? ⟨w2.heap.size, q, none⟩ = false)) (fun i _ => s.size - (intOf i).toNat)
      case atStart =>
        refine ⟨0, Nat.zero_le _, rfl, ((Ext.refl _).alloc _).drew, fun j hj => ?_, fun j hj => ?_⟩
        · show (w2.alloc _).cell? _ = _
          rw [World.cell?_alloc_mark, bytesRow_at s cap j hj, mapAt_zero upC s j hj]
          rfl
        · show (w2.alloc _).frozen? _ = _
          rw [World.frozen?_alloc_mark]
          have : j < (bytesRow s cap).size := by simp [bytesRow]; omega
          simp; omega
      case round =>
        obtain ⟨j, hj, rfl, hbi, hcell, hfr⟩ := hrel
        by_cases hjt : j < s.size
        · have hc := hcell j hjt
          have hf2 := hfr j hjt
          have Hcell := Lib.hid hcell; clear hcell
          have Hfr := Lib.hid hfr; clear hfr
          rw [mapAt_self] at hc
          by_cases hup : (97 : Int) ≤ (s.data[j].toNat : Int) ∧ (s.data[j].toNat : Int) ≤ 122
          · have hy := upC_yes s.data[j] hup.1 hup.2
            have ha := map_step_yes (lt := hjt) Hcell.out Hfr.out hy
            obtain ⟨u1, u2⟩ := hup
            have hw8 : IntKind.u8.wrap ((s.data[j].toNat : Int) - 32) = (s.data[j].toNat : Int) - 32 := IntWalk.u8_in _ (by omega)
            clear hy
            go_wp2
            go_roundw
            case rel => exact ⟨j + 1, by omega, by go_num, Ext.setCell hbi (p := ⟨w2.heap.size, j, none⟩) (Nat.le_refl _) _, ha.1, ha.2⟩
            case measure => simp [intOf]; omega
          · have hn := upC_no s.data[j] hup
            have ha := map_step_no hjt Hcell.out hn
            clear hn
            go_wp2
            all_goals
              first
              | (exfalso; omega)
              | (go_roundw
                 case rel => exact ⟨j + 1, by omega, by go_num, hbi, ha, Hfr.out⟩
                 case measure => simp [intOf]; omega)
        · obtain rfl : j = s.size := by omega
          have hback := run_convert_bytes_back (P := Tryd.prog) wr 59 9 5 ⟨w2.heap.size, 0, none⟩ cap (s.data.toList.map upC) Tryd.underlying59 Tryd.underlying5 Tryd.underlying9
            (fun q hq => by rw [add_plain, Nat.zero_add, hcell q (by simpa using hq), mapAt_end upC s s.size q (by simpa using hq) hq])
          rw [show (s.data.toList.map upC).length = s.size by simp] at hback
          clear hcell hfr
          replace x1 := hbi.cell x1
          have hown3 := own_ext Hown2.out hbi
          have hbr3 := hbr2.trans hbi
          clear Hown2
          go_wp2_with (first
            | (at_builtin; refine wpList_app _ rfl (.tmp 42) (.tmp 48) 22 rfl w 28 _ 2 32 Tryd.underlying22 infoRfd rfl (by decide) _ _ _ rfl (hown3.alloc _) _ 1 1 (fldCells [(upS s, vl)]) rfl (Rd.two _ _ _ _ (by simp)) (fldCells_one _) (hbr3.alloc _) (by omega) (by decide) ?_; intro A7 c7 w7 hown7 hb7 hle7))
          go_roundw
          case rel => exact ⟨k + 1, A7, c7, by omega, by go_num, rfl, by rw [Hst.out, fldCells_app]; exact hown7, hle7, hb7⟩
          case measure => simp [intOf]; omega
    · obtain rfl : k = n := by omega
      have he : fs.take k = fs := List.take_of_length_le (by have := Hl.out; omega)
      rw [he] at hown
      go_wp2_with fail
      go_ret
      exact ⟨_, _, rfl, Rd.of_own hown, hmc, hbr, own_lo hown⟩
end Go.Proofs.YtphgaommokgfcaaDoor

namespace Go.Proofs.YtphgaommokgfcaaDoor
open Go

section
variable {P : Program} {ops : Array Oper} {Q : Exit → Act → World → Prop} {md : Region.Mode} {S : World → Prop} {s : Nat}

/-- Whatever order is picked from here on; until number s has come up, S holds behind every operation. -/
def wpAnyU (P : Program) (md : Region.Mode) (ops : Array Oper) (Q : Exit → Act → World → Prop) (S : World → Prop) (s : Nat) : Nat → Array Bool → Act → World → Prop
  | 0, listed, a, w => Region.ready md ops listed = [] ∧ Q .normal a w
  | fuel + 1, listed, a, w =>
    (Region.ready md ops listed = [] → Q .normal a w) ∧
    ∀ i ∈ Region.ready md ops listed, wpOp P ops Q i (fun a' w' => ((listed.setIfInBounds i true).getD s true = false → S w') ∧ wpAnyU P md ops Q S s fuel (listed.setIfInBounds i true) a' w') a w
theorem wpAny_of_U : ∀ (fuel : Nat) (listed : Array Bool) (a : Act) (w : World), wpAnyU P md ops Q S s fuel listed a w → wpAny P md ops Q fuel listed a w
  | 0, _, _, _, h => h
  | fuel + 1, _, _, _, h => ⟨h.1, fun i hi => wpOp_mono (fun a' w' h' => wpAny_of_U fuel _ a' w' h'.2) (h.2 i hi)⟩
theorem listed_stays {listed : Array Bool} {i : Nat} (h : listed.getD s true = true) : (listed.setIfInBounds i true).getD s true = true := by
  by_cases hi : i = s
  · subst hi
    simp [Array.getD]
  · rw [getD_set_ne true hi]; exact h
/-- Behind number s nothing more is asked. -/
theorem wpAnyU_after : ∀ (fuel : Nat) (listed : Array Bool) (a : Act) (w : World), listed.getD s true = true → wpAnyH P md ops Q (fun _ => True) fuel listed a w → wpAnyU P md ops Q S s fuel listed a w
  | 0, _, _, _, _, h => h
  | fuel + 1, listed, _, _, hs, h => ⟨h.1, fun i hi => wpOp_mono (fun a' w' h' => ⟨(fun e => by rw [listed_stays hs] at e; cases e), wpAnyU_after fuel _ a' w' (listed_stays hs) h'.2⟩) (h.2 i hi)⟩
/-- Each of D waits for i or for another one of D. -/
def depB (md : Region.Mode) (ops : Array Oper) (i : Nat) (D : List Nat) : Bool :=
  D.all fun d => match ops[d]? with
    | some o => o.after.any fun e => Region.binds md e && (e.on == i || D.contains e.on)
    | none => false
def unB (listed : Array Bool) (D : List Nat) : Bool := D.all fun d => !listed.getD d true
theorem dep_notready {listed : Array Bool} {i : Nat} {D : List Nat} (hd : depB md ops i D = true) (hu : unB listed D = true) (hi : listed.getD i true = false) {j : Nat} (hj : j ∈ Region.ready md ops listed) : j ∉ D := by
  intro hjD
  have h1 := List.all_eq_true.1 hd j hjD
  obtain ⟨_, oj, hoj, hall⟩ := mem_ready.1 hj
  rw [hoj] at h1
  obtain ⟨e, he, hb⟩ := Array.any_eq_true'.1 h1
  simp only [Bool.and_eq_true, Bool.or_eq_true, beq_iff_eq, List.contains_eq_mem, decide_eq_true_eq] at hb
  have h2 := hall e he hb.1
  have h3 : listed.getD e.on true = false := by
    rcases hb.2 with h | h
    · rw [h]; exact hi
    · simpa using List.all_eq_true.1 hu _ h
  rw [Array.getD_eq_getD_getElem?] at h2 h3
  rcases Nat.lt_or_ge e.on listed.size with hl | hl
  · rw [Array.getElem?_eq_getElem hl] at h2 h3
    simp at h2 h3
    rw [h2] at h3; cases h3
  · rw [Array.getElem?_eq_none hl] at h3
    simp at h3
theorem un_set {listed : Array Bool} {D : List Nat} (hu : unB listed D = true) {j : Nat} (hj : j ∉ D) : unB (listed.setIfInBounds j true) D = true := by
  unfold unB at *
  rw [List.all_eq_true] at *
  intro d hd
  have hne : j ≠ d := fun e => hj (e ▸ hd)
  rw [getD_set_ne true hne]
  exact hu d hd
theorem wpAnyU_first {i : Nat} {oi : Oper} {v : Value} (D : List Nat) (hsD : s ∈ D) (hiD : i ∉ D) (hd : depB md ops i D = true) (hi : ops[i]? = some oi)
    (hsel : ∀ (j : Nat) (o : Oper) cs b, ops[j]? = some o → o.op ≠ .select cs b)
    (hQ : ∀ c a w, Q (.panic c) (a.put oi.dst v) w → Q (.panic c) a w) :
    ∀ (fuel : Nat) (listed : Array Bool) (a : Act) (w : World),
      (∀ j oj, ops[j]? = some oj → j ≠ i → listed.getD j true = false → (∀ e ∈ oj.after, Region.binds md e = true → e.on ≠ i) → oi.apart ops oj = true) →
      i ∈ Region.ready md ops listed → unB listed D = true → YieldsIf P ops S oi v a → S w →
      wpAnyU P md ops Q S s fuel (listed.setIfInBounds i true) (a.put oi.dst v) w → wpAnyU P md ops Q S s (fuel + 1) listed a w := by
  intro fuel
  induction fuel with
  | zero =>
    intro listed a w _ hr hu hy hS H
    refine ⟨fun h => (by rw [h] at hr; cases hr), fun j hj => ?_⟩
    by_cases hji : j = i
    · subst hji; exact hy.wpOp hi hS ⟨fun _ => hS, H⟩
    · have := ready_mono hj hji
      rw [H.1] at this
      cases this
  | succ fuel ih =>
    intro listed a w hfree hr hu hy hS H
    refine ⟨fun h => (by rw [h] at hr; cases hr), fun j hj => ?_⟩
    by_cases hji : j = i
    · subst hji; exact hy.wpOp hi hS ⟨fun _ => hS, H⟩
    · have hun := (mem_ready.1 hr).1
      have h1 := H.2 j (ready_mono hj hji)
      obtain ⟨hjun, oj, hoj, hall⟩ := mem_ready.1 hj
      have hnot : ∀ e ∈ oj.after, Region.binds md e = true → e.on ≠ i := fun e he hb heq => by
        have h1 := hall e he hb
        rw [heq] at h1
        rcases Nat.lt_or_ge i listed.size with h' | h'
        · simp [h'] at hun h1; rw [hun] at h1; cases h1
        · simp [Array.getElem?_eq_none h'] at h1
      have hjD := dep_notready hd hu hun hj
      have h2 := wpOp_putIf hoj (hfree j oj hoj hji hjun hnot) (fun cs b => hsel i oi cs b hi) (fun cs b => hsel j oj cs b hoj) hQ hy h1
      have hfree' : ∀ k ok, ops[k]? = some ok → k ≠ i → (listed.setIfInBounds j true).getD k true = false →
          (∀ e ∈ ok.after, Region.binds md e = true → e.on ≠ i) → oi.apart ops ok = true := fun k ok hk hki hun hno => by
        refine hfree k ok hk hki ?_ hno
        by_cases hjk : j = k
        · subst hjk; exact hjun
        · rw [getD_set_ne true hjk] at hun; exact hun
      have hsu : (listed.setIfInBounds j true).getD s true = false := by
        have := List.all_eq_true.1 (un_set hu hjD) s hsD
        simpa using this
      have hsu2 : ((listed.setIfInBounds i true).setIfInBounds j true).getD s true = false := by
        have := List.all_eq_true.1 (un_set (un_set hu hiD) hjD) s hsD
        simpa using this
      refine wpOp_mono (fun a' w' h3 => ⟨fun _ => h3.2.1 hsu2, ih (listed.setIfInBounds j true) a' w' hfree' (ready_mono hr (Ne.symm hji)) (un_set hu hjD) h3.1 (h3.2.1 hsu2) ?_⟩) h2
      rw [Array.setIfInBounds_comm _ _ hji]
      exact h3.2.2
theorem wpAnyU_take {i : Nat} {oi : Oper} {v : Value} {fuel : Nat} {listed : Array Bool} {a : Act} {w : World} (D : List Nat) (hsD : D.contains s = true) (hiD : D.contains i = false) (hd : depB md ops i D = true) (hu : unB listed D = true)
    (hi : ops[i]? = some oi)
    (hs : Region.noSelect ops = true) (hf : Region.free md ops listed i = true) (hr : (Region.ready md ops listed).contains i = true)
    (hQ : ∀ c a w, Q (.panic c) (a.put oi.dst v) w → Q (.panic c) a w) (hy : YieldsIf P ops S oi v a) (hS : S w)
    (h : wpAnyU P md ops Q S s fuel (listed.setIfInBounds i true) (a.put oi.dst v) w) : wpAnyU P md ops Q S s (fuel + 1) listed a w :=
  wpAnyU_first D (by simpa using hsD) (by simpa using hiD) hd hi (Region.noSelect_spec hs) hQ fuel listed a w (Region.free_spec hi hf) (by simpa using hr) hu hy hS h
theorem wpAnyU_firstW {i : Nat} {oi : Oper} {v : Value} (his : i ≠ s) (hi : ops[i]? = some oi)
    (hsel : ∀ (j : Nat) (o : Oper) cs b, ops[j]? = some o → o.op ≠ .select cs b)
    (hQ : ∀ c a w, Q (.panic c) (a.put oi.dst v) w → Q (.panic c) a w) :
    ∀ (fuel : Nat) (listed : Array Bool) (a : Act) (w : World),
      (∀ j oj, ops[j]? = some oj → j ≠ i → listed.getD j true = false → (∀ e ∈ oj.after, Region.binds md e = true → e.on ≠ i) → oi.apart ops oj = true) →
      i ∈ Region.ready md ops listed → YieldsIf P ops (fun _ => True) oi v a → (listed.getD s true = false → S w) →
      wpAnyU P md ops Q S s fuel (listed.setIfInBounds i true) (a.put oi.dst v) w → wpAnyU P md ops Q S s (fuel + 1) listed a w := by
  intro fuel
  induction fuel with
  | zero =>
    intro listed a w _ hr hy hS H
    refine ⟨fun h => (by rw [h] at hr; cases hr), fun j hj => ?_⟩
    by_cases hji : j = i
    · subst hji; exact hy.wpOp hi trivial ⟨fun e => hS (by rwa [getD_set_ne true his] at e), H⟩
    · have := ready_mono hj hji
      rw [H.1] at this
      cases this
  | succ fuel ih =>
    intro listed a w hfree hr hy hS H
    refine ⟨fun h => (by rw [h] at hr; cases hr), fun j hj => ?_⟩
    by_cases hji : j = i
    · subst hji; exact hy.wpOp hi trivial ⟨fun e => hS (by rwa [getD_set_ne true his] at e), H⟩
    · have hun := (mem_ready.1 hr).1
      have h1 := H.2 j (ready_mono hj hji)
      obtain ⟨hjun, oj, hoj, hall⟩ := mem_ready.1 hj
      have hnot : ∀ e ∈ oj.after, Region.binds md e = true → e.on ≠ i := fun e he hb heq => by
        have h1 := hall e he hb
        rw [heq] at h1
        rcases Nat.lt_or_ge i listed.size with h' | h'
        · simp [h'] at hun h1; rw [hun] at h1; cases h1
        · simp [Array.getElem?_eq_none h'] at h1
      have h2 := wpOp_putIf hoj (hfree j oj hoj hji hjun hnot) (fun cs b => hsel i oi cs b hi) (fun cs b => hsel j oj cs b hoj) hQ hy h1
      have hfree' : ∀ k ok, ops[k]? = some ok → k ≠ i → (listed.setIfInBounds j true).getD k true = false →
          (∀ e ∈ ok.after, Region.binds md e = true → e.on ≠ i) → oi.apart ops ok = true := fun k ok hk hki hun hno => by
        refine hfree k ok hk hki ?_ hno
        by_cases hjk : j = k
        · subst hjk; exact hjun
        · rw [getD_set_ne true hjk] at hun; exact hun
      have hcomm : (listed.setIfInBounds i true).setIfInBounds j true = (listed.setIfInBounds j true).setIfInBounds i true := Array.setIfInBounds_comm _ _ (Ne.symm hji)
      have hsS : (listed.setIfInBounds j true).getD s true = false → ((listed.setIfInBounds i true).setIfInBounds j true).getD s true = false := fun e => by
        rw [hcomm, getD_set_ne true his]; exact e
      refine wpOp_mono (fun a' w' h3 => ⟨fun e => h3.2.1 (hsS e), ih (listed.setIfInBounds j true) a' w' hfree' (ready_mono hr (Ne.symm hji)) h3.1 (fun e => h3.2.1 (hsS e)) ?_⟩) h2
      rw [Array.setIfInBounds_comm _ _ hji]
      exact h3.2.2
/-- What yields in whatever world is taken first, wherever it stands. -/
theorem wpAnyU_takeW {i : Nat} {oi : Oper} {v : Value} {fuel : Nat} {listed : Array Bool} {a : Act} {w : World} (his : (i == s) = false)
    (hi : ops[i]? = some oi)
    (hs : Region.noSelect ops = true) (hf : Region.free md ops listed i = true) (hr : (Region.ready md ops listed).contains i = true)
    (hQ : ∀ c a w, Q (.panic c) (a.put oi.dst v) w → Q (.panic c) a w) (hy : YieldsIf P ops (fun _ => True) oi v a) (hS : S w)
    (h : wpAnyU P md ops Q S s fuel (listed.setIfInBounds i true) (a.put oi.dst v) w) : wpAnyU P md ops Q S s (fuel + 1) listed a w :=
  wpAnyU_firstW (by simpa using his) hi (Region.noSelect_spec hs) hQ fuel listed a w (Region.free_spec hi hf) (by simpa using hr) hy (fun _ => hS) h
def AllReadyU (P : Program) (md : Region.Mode) (ops : Array Oper) (Q : Exit → Act → World → Prop) (S : World → Prop) (s : Nat) (fuel : Nat) (listed : Array Bool) (a : Act) (w : World) (rs : List Nat) : Prop :=
  ∀ i ∈ rs, wpOp P ops Q i (fun a' w' => ((listed.setIfInBounds i true).getD s true = false → S w') ∧ wpAnyU P md ops Q S s fuel (listed.setIfInBounds i true) a' w') a w
theorem AllReadyU.nil {fuel : Nat} {listed : Array Bool} {a : Act} {w : World} : AllReadyU P md ops Q S s fuel listed a w [] := fun _ h => by cases h
/-- Ahead of number s: S is shown, and handed on. -/
theorem AllReadyU.cons {fuel : Nat} {listed : Array Bool} {a : Act} {w : World} {i : Nat} {o : Oper} {rs : List Nat} (ho : ops[i]? = some o)
    (h : ∀ K' : Act → World → Prop, Shut (∀ a w, S w → (S w → wpAnyU P md ops Q S s fuel (listed.setIfInBounds i true) a w) → K' a w) → if Region.wanted o (yielded ops a.tmps) = true then Oper.wp P o a w K' Q else K' (a.put o.dst undef) w)
    (hs : AllReadyU P md ops Q S s fuel listed a w rs) : AllReadyU P md ops Q S s fuel listed a w (i :: rs) := fun j hj => by
  rcases List.mem_cons.1 hj with rfl | hj
  · exact wpOp_step ho (fun K' hK => h K' (fun a w hS hW => hK a w ⟨fun _ => hS, hW hS⟩))
  · exact hs j hj
/-- At number s itself: nothing is shown, and nothing more is asked behind it. -/
theorem AllReadyU.stop {fuel : Nat} {listed : Array Bool} {a : Act} {w : World} {o : Oper} {rs : List Nat} (ho : ops[s]? = some o) (hl : (listed.setIfInBounds s true).getD s true = true)
    (h : ∀ K' : Act → World → Prop, Shut (∀ a w, True → (True → wpAnyH P md ops Q (fun _ => True) fuel (listed.setIfInBounds s true) a w) → K' a w) → if Region.wanted o (yielded ops a.tmps) = true then Oper.wp P o a w K' Q else K' (a.put o.dst undef) w)
    (hs : AllReadyU P md ops Q S s fuel listed a w rs) : AllReadyU P md ops Q S s fuel listed a w (s :: rs) := fun j hj => by
  rcases List.mem_cons.1 hj with rfl | hj
  · exact wpOp_step ho (fun K' hK => h K' (fun a w _ hW => hK a w ⟨(fun e => by rw [hl] at e; cases e), wpAnyU_after _ _ _ _ hl (hW trivial)⟩))
  · exact hs j hj
theorem wpAnyU_ready {rs : List Nat} {fuel : Nat} {listed : Array Bool} {a : Act} {w : World} (hr : Region.ready md ops listed = rs) (hne : rs ≠ [])
    (h : AllReadyU P md ops Q S s fuel listed a w rs) : wpAnyU P md ops Q S s (fuel + 1) listed a w :=
  ⟨fun h0 => absurd (hr ▸ h0) hne, hr ▸ h⟩
theorem wp_region_U {id : Nat} {a : Act} {w : World} (s : Nat) (hm : P.follows .mixedOrders = true) (hS : S w.drew)
    (h : S w.drew → wpAnyU P .any ops Q S s ops.size (Array.replicate ops.size false) a w.drew) : (Code.region id ops true).wp P Q a w :=
  wp_region_any hm (wpAny_of_U _ _ _ _ (h hS))
end

/-! Whole structs loaded and stored inside such a region. -/
section
variable {P : Program} {ops : Array Oper} {o : Oper} {a : Act} {w : World} {K : Act → World → Prop} {Q : Exit → Act → World → Prop} {E : Prop}
theorem step_loadB (hgd : o.guard = none) (ty : TypeId) (x : Operand) (ho : o.op = .load ty x)
    (g : Nat) (hx : a.eval x = .pointer (some ⟨g, 0, none⟩)) (t : TypeId) (cs : Array Value) (hg : Blk w g t cs) (fs : Array Field)
    (hu : P.underlying ty = some (.struct fs)) (hi : (P.info? ty).map (·.size) = some cs.size)
    (h : K (a.put o.dst (.agg cs)) w) : if Region.wanted o (yielded ops a.tmps) = true then Oper.wp P o a w K Q else E := by
  rw [if_pos (by simp [Region.wanted, hgd])]
  exact wp_load_row ty x ho g hx t cs (0, 0) _ hg hu rfl hi h
theorem step_storeB (hgd : o.guard = none) (ty : TypeId) (x y : Operand) (ho : o.op = .store ty x y)
    (hd : o.dst = none) (g : Nat) (cells : Array Value) (hx : a.eval x = .pointer (some ⟨g, 0, none⟩)) (hy : a.eval y = .agg cells)
    (t : TypeId) (old : Array Value) (hg : Blk w g t old) (hi : (P.info? ty).map (·.size) = some cells.size)
    (hold : old.size = cells.size) (h1 : cells.all (·.oneCell') = true)
    (h : ∀ w', Blk w' g t cells → ExtB g w w' → K a w') : if Region.wanted o (yielded ops a.tmps) = true then Oper.wp P o a w K Q else E := by
  rw [if_pos (by simp [Region.wanted, hgd])]
  refine wp_store_row ty x y ho g cells hx hy t old hg hi hold h1 ?_
  rw [hd]
  exact h _ (setRow_heap w g old cells t (0, 0) hg) ⟨rfl, rfl, rfl, by simp, fun k _ hne => setRow_other w g k cells (fun e => hne (by rw [e]))⟩
/-- A whole struct, loaded ahead of all else. -/
theorem yield_loadB {S : World → Prop} (hgd : o.guard = none) (ty : TypeId) (x : Operand) (ho : o.op = .load ty x)
    (g : Nat) (hx : a.eval x = .pointer (some ⟨g, 0, none⟩)) (t : TypeId) (cs : Array Value) (hg : ∀ w, S w → Blk w g t cs) (fs : Array Field)
    (hu : P.underlying ty = some (.struct fs)) (hi : (P.info? ty).map (·.size) = some cs.size) : YieldsIf P ops S o (.agg cs) a := by
  refine .inl ⟨by simp [Region.wanted, hgd], fun w hS => ?_⟩
  unfold execOp
  simp only [ho, hx, Instr.loadAt, Instr.sureAddr, Sem.run_bind, Sem.run_pure, Result.andThen_ok, run_loadVar_row w g t ty cs (0, 0) _ (hg w hS) hu rfl hi]
end
end Go.Proofs.YtphgaommokgfcaaDoor

namespace Go.Proofs.YtphgaommokgfcaaDoor
open Go.RowKit

set_option maxHeartbeats 8000000 in
set_option maxRecDepth 100000 in
theorem law15_of (me : ByteArray) (Aq : Option Addr) (nq cq : Nat) (rq : List Fd) (Ar : Option Addr) (nr cr : Nat) (rp : List Fd) (st : Int) (w : World) (hfq : RdF w Aq nq rq) (hfr : RdF w Ar nr rp) (hnq : nq ≤ 1073741824) (hnr : nr ≤ 1073741824) (hszq : Bsz 1048576 rq) (hszr : Bsz 1048576 rp) (hg : GlH w) (hT : sumF rp + 2 * nr ≤ 70368744177664) (hgl : Gl w) :
    Calls Tryd.prog 11 #[.agg #[.string me, .slice Aq nq cq, .slice Ar nr cr, .int .i64 st]] w fun e w' => e = .returned (.int .i64 (rsS (isG me) rq st rp)) ∧ Ext w w' := by
  have hEa := (Ext.refl w).alloc (.cells #[.string me, .slice Aq nq cq, .slice Ar nr cr, .int .i64 st] 24)
  have HFq := Lib.hid (fun w' (h : Ext (w.alloc (.cells #[.string me, .slice Aq nq cq, .slice Ar nr cr, .int .i64 st] 24)) w') => law_Fields Aq nq cq rq w' ((hfq.ext hEa).ext h) hnq)
  have HFr := Lib.hid (fun w' (h : Ext (w.alloc (.cells #[.string me, .slice Aq nq cq, .slice Ar nr cr, .int .i64 st] 24)) w') => law_Fields Ar nr cr rp w' ((hfr.ext hEa).ext h) hnr)
  have HB := Lib.hid (Blk.new w 24 #[.string me, .slice Aq nq cq, .slice Ar nr cr, .int .i64 st])
  have HG := Lib.hid (⟨hg.ext hEa, hgl.ext hEa⟩ : _ ∧ _)
  have HE := Lib.hid hEa
  clear hEa hg hgl hfq hfr
  go_enter Tryd.func11, Tryd.ntmps11
  go_wp2_with fail
  generalize w.alloc (.cells #[.string me, .slice Aq nq cq, .slice Ar nr cr, .int .i64 st] 24) = W0 at *
  have HC := Lib.hid (show ∀ w', Ext W0 w' → (w'.cell? ⟨w.heap.size, 0, none⟩ = some (.string me) ∧ w'.cell? ⟨w.heap.size, 1, none⟩ = some (.slice Aq nq cq) ∧ w'.cell? ⟨w.heap.size, 2, none⟩ = some (.slice Ar nr cr) ∧ w'.cell? ⟨w.heap.size, 3, none⟩ = some (.int .i64 st)) from fun w' h => ⟨(HB.out.ext h).cell 0, (HB.out.ext h).cell 1, (HB.out.ext h).cell 2, (HB.out.ext h).cell 3⟩)
  have hE := (Ext.refl W0).drew
  refine wp_region_held_drew (S := (fun w' => w'.cell? ⟨w.heap.size, 0, none⟩ = some (.string me) ∧ w'.cell? ⟨w.heap.size, 1, none⟩ = some (.slice Aq nq cq) ∧ w'.cell? ⟨w.heap.size, 2, none⟩ = some (.slice Ar nr cr) ∧ w'.cell? ⟨w.heap.size, 3, none⟩ = some (.int .i64 st))) (by kernel_rfl) ?_ (fun hHeld => ?_)
  · (try dsimp only); exact HC.out _ hE
  refine wpAnyH_take (i := 0) (oi := { dst := some 3, op := _, type := _, pos := _, after := _, guard := _ }) (v := ?_) rfl (by kernel_rfl) (by kernel_rfl) (by kernel_rfl) (fun _ _ _ h => h) (Or.inl ⟨by rfl, ?_⟩) (by assumption) ?_
  rotate_left
  · (intro w hSw; (try dsimp only at hSw); go_simp; (try with_reducible rfl))
  (try simp only [Act.put, List.setIfInBounds_toArray, List.set_cons_zero, List.set_cons_succ])
  refine wpAnyH_take (i := 1) (oi := { dst := some 4, op := _, type := _, pos := _, after := _, guard := _ }) (v := ?_) rfl (by kernel_rfl) (by kernel_rfl) (by kernel_rfl) (fun _ _ _ h => h) (Or.inl ⟨by rfl, ?_⟩) (by assumption) ?_
  rotate_left
  · (intro w hSw; (try dsimp only at hSw); go_simp; (try with_reducible rfl))
  (try simp only [Act.put, List.setIfInBounds_toArray, List.set_cons_zero, List.set_cons_succ])
  refine wpAnyH_take (i := 2) (oi := { dst := some 5, op := _, type := _, pos := _, after := _, guard := _ }) (v := ?_) rfl (by kernel_rfl) (by kernel_rfl) (by kernel_rfl) (fun _ _ _ h => h) (Or.inl ⟨by rfl, ?_⟩) (by assumption) ?_
  rotate_left
  · (intro w hSw; (try dsimp only at hSw); go_simp; (try with_reducible rfl))
  (try simp only [Act.put, List.setIfInBounds_toArray, List.set_cons_zero, List.set_cons_succ])
  refine wpAnyH_take (i := 3) (oi := { dst := some 6, op := _, type := _, pos := _, after := _, guard := _ }) (v := ?_) rfl (by kernel_rfl) (by kernel_rfl) (by kernel_rfl) (fun _ _ _ h => h) (Or.inl ⟨by rfl, ?_⟩) (by assumption) ?_
  rotate_left
  · (intro w hSw; (try dsimp only at hSw); go_simp; (try with_reducible rfl))
  (try simp only [Act.put, List.setIfInBounds_toArray, List.set_cons_zero, List.set_cons_succ])
  refine wpAnyH_take (i := 5) (oi := { dst := some 8, op := _, type := _, pos := _, after := _, guard := _ }) (v := ?_) rfl (by kernel_rfl) (by kernel_rfl) (by kernel_rfl) (fun _ _ _ h => h) (Or.inl ⟨by rfl, ?_⟩) (by assumption) ?_
  rotate_left
  · (intro w hSw; (try dsimp only at hSw); go_simp; (try with_reducible rfl))
  (try simp only [Act.put, List.setIfInBounds_toArray, List.set_cons_zero, List.set_cons_succ])
  refine wpAnyH_take (i := 6) (oi := { dst := some 9, op := _, type := _, pos := _, after := _, guard := _ }) (v := ?_) rfl (by kernel_rfl) (by kernel_rfl) (by kernel_rfl) (fun _ _ _ h => h) (Or.inl ⟨by rfl, ?_⟩) (by assumption) ?_
  rotate_left
  · (intro w hSw; (try dsimp only at hSw); go_simp; (try with_reducible rfl))
  (try simp only [Act.put, List.setIfInBounds_toArray, List.set_cons_zero, List.set_cons_succ])
  refine wpAnyH_take (i := 7) (oi := { dst := some 10, op := _, type := _, pos := _, after := _, guard := _ }) (v := ?_) rfl (by kernel_rfl) (by kernel_rfl) (by kernel_rfl) (fun _ _ _ h => h) (Or.inl ⟨by rfl, ?_⟩) (by assumption) ?_
  rotate_left
  · (intro w hSw; (try dsimp only at hSw); go_simp; (try with_reducible rfl))
  (try simp only [Act.put, List.setIfInBounds_toArray, List.set_cons_zero, List.set_cons_succ])
  refine wpAnyH_take (i := 8) (oi := { dst := some 11, op := _, type := _, pos := _, after := _, guard := _ }) (v := ?_) rfl (by kernel_rfl) (by kernel_rfl) (by kernel_rfl) (fun _ _ _ h => h) (Or.inl ⟨by rfl, ?_⟩) (by assumption) ?_
  rotate_left
  · (intro w hSw; (try dsimp only at hSw); go_simp; (try with_reducible rfl))
  (try simp only [Act.put, List.setIfInBounds_toArray, List.set_cons_zero, List.set_cons_succ])
  refine wpAnyH_ready (rs := [4]) (by kernel_rfl) (by simp) ?_
  refine AllReadyH.cons (o := { dst := some 7, op := _, type := _, pos := _, after := _, guard := _ }) rfl (fun K hK => ?_) AllReadyH.nil
  go_simp
  refine (HFq.out _ hE).mono ?_; rintro e w1 ⟨A2, c2, rfl, hf2, hk2, hb1, hown2⟩; clear hown2; have hE := hE.trans hb1; clear hb1
  try go_wp2_with fail
  refine hK.out _ _ ?_ (fun hHeld => ?_)
  · (try dsimp only); exact HC.out _ hE
  clear hK K
  (try simp only [Act.put, List.setIfInBounds_toArray, List.set_cons_zero, List.set_cons_succ])
  refine wpAnyH_ready (rs := [9]) (by kernel_rfl) (by simp) ?_
  refine AllReadyH.cons (o := { dst := some 12, op := _, type := _, pos := _, after := _, guard := _ }) rfl (fun K hK => ?_) AllReadyH.nil
  go_simp
  refine (HFr.out _ hE).mono ?_; rintro e w2 ⟨A3, c3, rfl, hf3, hk3, hb2, hown3⟩; clear hown3; have hE := hE.trans hb2; have hf2 := hf2.ext hb2; clear hb2
  try go_wp2_with fail
  refine hK.out _ _ ?_ (fun hHeld => ?_)
  · (try dsimp only); exact HC.out _ hE
  clear hK K
  (try simp only [Act.put, List.setIfInBounds_toArray, List.set_cons_zero, List.set_cons_succ])
  refine wpAnyH_ready (rs := [10]) (by kernel_rfl) (by simp) ?_
  refine AllReadyH.cons (o := { dst := some 13, op := _, type := _, pos := _, after := _, guard := _ }) rfl (fun K hK => ?_) AllReadyH.nil
  go_simp
  refine (sto_Of me A2 nq c2 rq st A3 nr c3 rp _ hf2 hf3 hnq hnr hszq hszr (HG.out.1.ext hE) hT (HG.out.2.ext hE)).mono ?_; rintro e w3 ⟨rfl, hb3⟩; have hE := hE.trans hb3; clear hb3
  try go_wp2_with fail
  refine hK.out _ _ ?_ (fun hHeld => ?_)
  · (try dsimp only); exact HC.out _ hE
  clear hK K
  (try simp only [Act.put, List.setIfInBounds_toArray, List.set_cons_zero, List.set_cons_succ])
  refine wpAnyH_take (i := 11) (oi := { dst := some 2, op := _, type := _, pos := _, after := _, guard := _ }) (v := ?_) rfl (by kernel_rfl) (by kernel_rfl) (by kernel_rfl) (fun _ _ _ h => h) (Or.inl ⟨by rfl, ?_⟩) (by assumption) ?_
  rotate_left
  · (intro w hSw; (try dsimp only at hSw); go_simp; (try with_reducible rfl))
  (try simp only [Act.put, List.setIfInBounds_toArray, List.set_cons_zero, List.set_cons_succ])
  refine wpAnyH_done (by kernel_rfl) ?_ _
  go_wp2_with fail
  go_ret
  exact ⟨rfl, HE.out.trans hE⟩

def aw15 : List Fd := [(ccN, ⟨#[109, 97, 120, 45, 97, 103, 101, 61, 53]⟩)]
theorem aw15_1 : rsS (isG ⟨#[71, 69, 84]⟩) [] 200 aw15 = 0 := by decide +kernel
theorem aw15_2 : rsS (isG ⟨#[71, 69, 84]⟩) [] 200 [] = 8 := by decide +kernel
theorem aw15_sum : sumF aw15 = 22 := by decide +kernel
theorem rdF_nil (w : World) (c : Option Addr) : RdF w c 0 [] := ⟨rfl, fun h => absurd h (by simp [fldCells])⟩
set_option maxHeartbeats 4000000 in
set_option maxRecDepth 100000 in
theorem law15_awake (w : World) (hg : GlH w) (hgl : Gl w) : Calls Tryd.prog 10 #[] w fun e w' => e = .returned (.bool true) ∧ Ext w w' := by
  have hE0 := (Ext.refl w).alloc (.cells (fldCells aw15).toArray 54)
  have hr : RdF (w.alloc (.cells (fldCells aw15).toArray 54)) (some ⟨w.heap.size, 0, none⟩) 1 aw15 := Rd.lit w _ _ rfl 2 1 rfl
  have HJ1 := Lib.hid (by
    have h := sto_Of ⟨#[71, 69, 84]⟩ none 0 0 [] 200 (some ⟨w.heap.size, 0, none⟩) 1 1 aw15 _ (rdF_nil _ _) hr (by decide) (by decide) (fun _ h => by cases h) ((bsz_of_sumF15 _).mono (by rw [aw15_sum]; decide)) (hg.ext hE0) (by rw [aw15_sum]; decide) (hgl.ext hE0)
    rw [aw15_1] at h; exact h)
  have HJ2 := Lib.hid (fun w' (h : Ext (w.alloc (.cells (fldCells aw15).toArray 54)) w') => by
    have h := sto_Of ⟨#[71, 69, 84]⟩ none 0 0 [] 200 none 0 0 [] w' (rdF_nil _ _) (rdF_nil _ _) (by decide) (by decide) (fun _ h => by cases h) (fun _ h => by cases h) ((hg.ext hE0).ext h) (by decide) ((hgl.ext hE0).ext h)
    rw [aw15_2] at h; exact h)
  have HE := Lib.hid hE0
  clear hr hE0
  go_enter Tryd.func10, Tryd.ntmps10
  go_wp2_with fail
  refine HJ1.out.mono ?_; rintro e w1 ⟨rfl, hb1⟩
  go_wp2_with fail
  refine (HJ2.out _ hb1).mono ?_; rintro e w2 ⟨rfl, hb2⟩
  go_wp2_with fail
  go_ret
  exact ⟨rfl, HE.out.trans (hb1.trans hb2)⟩
end Go.Proofs.YtphgaommokgfcaaDoor

namespace Go.Proofs.YtphgaommokgfcaaDoor
open Go.RowKit

/-- Does a reason say that responses are not to be shared? -/
def passS (r : Int) : Bool := decide (3 ≤ r) && decide (r ≤ 7)
set_option maxHeartbeats 4000000 in
set_option maxRecDepth 100000 in
theorem sto_Pass (r : Int) (w : World) : Calls Tryd.prog 14 #[.int .i64 r] w fun e w' => e = .returned (.bool (passS r)) ∧ w' = w := by
  cases h3 : (r == 3)
  rotate_left
  · have HL := Lib.hid (show true = passS r by obtain rfl : r = 3 := (by simpa using h3); rfl)
    go_enter Tryd.func14, Tryd.ntmps14
    go_wp2_with fail
    go_ret
    exact ⟨ret_b HL.out, rfl⟩
  cases h4 : (r == 4)
  rotate_left
  · have HL := Lib.hid (show true = passS r by obtain rfl : r = 4 := (by simpa using h4); rfl)
    go_enter Tryd.func14, Tryd.ntmps14
    go_wp2_with fail
    go_ret
    exact ⟨ret_b HL.out, rfl⟩
  cases h5 : (r == 5)
  rotate_left
  · have HL := Lib.hid (show true = passS r by obtain rfl : r = 5 := (by simpa using h5); rfl)
    go_enter Tryd.func14, Tryd.ntmps14
    go_wp2_with fail
    go_ret
    exact ⟨ret_b HL.out, rfl⟩
  cases h6 : (r == 6)
  rotate_left
  · have HL := Lib.hid (show true = passS r by obtain rfl : r = 6 := (by simpa using h6); rfl)
    go_enter Tryd.func14, Tryd.ntmps14
    go_wp2_with fail
    go_ret
    exact ⟨ret_b HL.out, rfl⟩
  cases h7 : (r == 7)
  rotate_left
  · have HL := Lib.hid (show true = passS r by obtain rfl : r = 7 := (by simpa using h7); rfl)
    go_enter Tryd.func14, Tryd.ntmps14
    go_wp2_with fail
    go_ret
    exact ⟨ret_b HL.out, rfl⟩
  have HL := Lib.hid (show false = passS r by
    unfold passS
    simp only [beq_eq_false_iff_ne, ne_eq] at *
    symm
    rw [Bool.eq_false_iff]
    intro h
    simp only [Bool.and_eq_true, decide_eq_true_eq] at h
    omega)
  go_enter Tryd.func14, Tryd.ntmps14
  go_wp2_with fail
  go_ret
  exact ⟨ret_b HL.out, rfl⟩
end Go.Proofs.YtphgaommokgfcaaDoor

namespace Go.Proofs.YtphgaommokgfcaaDoor
open Go.RowKit

set_option maxHeartbeats 4000000 in
set_option maxRecDepth 100000 in
theorem passes_walk (r : Int) (w : World) (hg : GlH w) (hgl : Gl w) : Calls Tryd.prog 6 #[.int .i64 r] w fun e w' => e = .returned (.bool true) ∧ Ext w w' := by
  have HA := Lib.hid (law15_awake w hg hgl)
  have HP := Lib.hid (sto_Pass r)
  go_enter Tryd.func6, Tryd.ntmps6
  go_wp2_with fail
  refine HA.out.mono ?_; rintro e w1 ⟨rfl, hb1⟩
  by_cases h3 : 3 ≤ r
  · by_cases h7 : r ≤ 7
    · have Hp := Lib.hid (show passS r = true by unfold passS; rw [decide_eq_true h3, decide_eq_true h7]; rfl)
      go_wp2_with fail
      refine (HP.out _).mono ?_; rintro e w2 ⟨rfl, rfl⟩
      rw [Hp.out]
      go_wp2_with fail
      go_ret
      exact ⟨ret_b (by first | rfl | simp [h3, h7] | simp [h3]), hb1⟩
    · have Hp := Lib.hid (show passS r = false by unfold passS; rw [decide_eq_false h7]; simp)
      go_wp2_with fail
      refine (HP.out _).mono ?_; rintro e w2 ⟨rfl, rfl⟩
      rw [Hp.out]
      go_wp2_with fail
      go_ret
      exact ⟨ret_b (by first | rfl | simp [h3, h7] | simp [h3]), hb1⟩
  · have Hp := Lib.hid (show passS r = false by unfold passS; rw [decide_eq_false h3]; rfl)
    go_wp2_with fail
    refine (HP.out _).mono ?_; rintro e w2 ⟨rfl, rfl⟩
    rw [Hp.out]
    go_wp2_with fail
    go_ret
    exact ⟨ret_b (by first | rfl | simp [h3, h7] | simp [h3]), hb1⟩
end Go.Proofs.YtphgaommokgfcaaDoor

namespace Go.Proofs.YtphgaommokgfcaaDoor
open Go.ChangeShapes Go.WideShapes Go.Deep Go.RowKit

/-- Type e is a struct of two strings. -/
def TwoStr (P : Program) (e S : TypeId) : Prop := ∃ f0 f1, P.underlying e = some (.struct #[f0, f1]) ∧ f0.type = S ∧ f1.type = S ∧ f0.offset = 0 ∧ f1.offset = 1 ∧ P.underlying S = some .string ∧ P.cellsOf S = 1 ∧ P.cellsOf e = 2

section
variable {H : Type} {enc : TypeId × Value → H} {P : Program} {w : World} {base : Nat} {spare : Nat → Bool} {held : Bool}

theorem trod_twoStr {e S : TypeId} {fuel : Nat} {cs : List Value} {x : DataW H × List MemPlace} (he : TwoStr P e S) (h : DataW.trod enc P w base spare held fuel e cs = some x) :
    ∃ a b : ByteArray, cs = [.string a, .string b] ∧ x.1 = .agg [.lit (.string a.data.toList), .lit (.string b.data.toList)] ∧ a.size ≤ maxLen ∧ b.size ≤ maxLen := by
  obtain ⟨f0, f1, hu, t0, t1, o0, o1, hS, hc, hce⟩ := he
  obtain ⟨y0, y1, n, rfl, hl, h0, h1⟩ := trod_struct2 hu h
  rw [t0, o0, hc] at h0
  rw [t1, o1, hc] at h1
  rw [hce] at hl
  match cs, hl with
  | [c0, c1], _ =>
    simp only [List.drop_zero, List.take_succ_cons, List.take_zero] at h0
    simp only [List.drop_succ_cons, List.drop_zero, List.take_succ_cons, List.take_zero] at h1
    obtain ⟨a, ha, rfl, ha2⟩ := DataW.trod_string hS h0
    obtain ⟨b, hb, rfl, hb2⟩ := DataW.trod_string hS h1
    simp only [List.cons.injEq, and_true] at ha hb
    subst ha; subst hb
    exact ⟨a, b, rfl, rfl, ha2, hb2⟩

theorem sz_data (a : ByteArray) : a.data.toList.length = a.size := by rw [Array.length_toList]; rfl

theorem weightsAll_mem {e : TypeId} {n : Nat} : ∀ {l : List (DataW H)} {i : Nat} {d : DataW H}, l[i]? = some d → n ∈ d.weights P e → n ∈ DataW.weightsAll P e l
  | d0 :: l, 0, d, hd, hn => by
    simp only [List.getElem?_cons_zero, Option.some.injEq] at hd
    subst hd
    simp only [DataW.weightsAll, List.mem_append]
    exact Or.inl hn
  | d0 :: l, i + 1, d, hd, hn => by
    simp only [List.getElem?_cons_succ] at hd
    simp only [DataW.weightsAll, List.mem_append]
    exact Or.inr (weightsAll_mem hd hn)
  | [], _, _, hd, _ => by simp at hd

/-- A slice of pairs of strings, opened. -/
theorem open_flds {t e S : TypeId} {A : Option Addr} {n c : Nat} {d : DataW H} {p : List MemPlace} (ht : P.underlying t = some (.slice e)) (he : TwoStr P e S)
    (h : DataW.Trod enc P w base spare held t (.slice A n c) d p) :
    ∃ L : List Fd, RdF w A n L ∧ n ≤ maxLen ∧ n ≤ c ∧ (∀ B, (∀ x ∈ d.weights P t, x ≤ B) → Bsz B L ∧ n * P.bytesOf e ≤ B) := by
  obtain ⟨fuel, hf⟩ := h
  have hf' : DataW.trod enc P w base spare held fuel t [.slice A n c] = some (d, p) := by simpa [Value.cells] using hf
  rcases open_slice ht hf' with ⟨hcs, hx⟩ | ⟨a, len, cap, m, k, D, Pl, hcs, hb, hl, hm, hmm, hx, hi⟩
  · simp only [List.cons.injEq, Value.slice.injEq, and_true] at hcs
    obtain ⟨rfl, rfl, rfl⟩ := hcs
    exact ⟨[], Rd.none_ _ _ _, by simp [maxLen], Nat.le_refl _, fun B _ => ⟨by intro f hf; simp at hf, by simp⟩⟩
  · simp only [List.cons.injEq, Value.slice.injEq, and_true] at hcs
    obtain ⟨rfl, rfl, rfl⟩ := hcs
    obtain ⟨f0, f1, hu, t0, t1, o0, o1, hS, hc, hce⟩ := id he
    rw [hce] at hi
    have hnm : n ≤ m := by rw [hmm]; split <;> omega
    obtain ⟨F, hF⟩ := choose_lt (α := Fd) (n := m) (p := fun i f => w.cell? (a.add (i * 2)) = some (.string f.1) ∧ w.cell? (a.add (i * 2 + 1)) = some (.string f.2) ∧ D i = .agg [.lit (.string f.1.data.toList), .lit (.string f.2.data.toList)]) (fun i him => by
      obtain ⟨cs', h1, h2⟩ := hi i him
      obtain ⟨_, _, hat⟩ := World.cells?_some h1
      obtain ⟨u, v, rfl, hd, _, _⟩ := trod_twoStr he h2
      have c0 := hat 0 (by omega)
      have c1 := hat 1 (by omega)
      rw [Go.Deep.add_add] at c0 c1
      exact ⟨(u, v), by simpa using c0, by simpa using c1, hd⟩)
    have hlen : ((List.range n).map F).length = n := by simp
    refine ⟨(List.range n).map F, ⟨by rw [fldCells_len, hlen], fun hpos => ?_⟩, by omega, hl, fun B hB => ⟨fun f hf => ?_, ?_⟩⟩
    · have hn0 : 0 < n := by rw [fldCells_len, hlen] at hpos; omega
      obtain ⟨b, o, sp⟩ := a
      have hsp : sp = none := by simpa [Addr.add] using World.cell?_spot (hF 0 (by omega)).1
      subst hsp
      refine ⟨b, o, rfl, fun j u hj => ?_⟩
      have hjl : j < n * 2 := by
        have := (List.getElem?_eq_some_iff.1 hj).1
        rw [fldCells_len, hlen] at this; exact this
      have hlt : j / 2 < ((List.range n).map F).length := by rw [hlen]; omega
      have hcells := hF (j / 2) (by omega)
      rw [add_plain, add_plain] at hcells
      have hFe : ((List.range n).map F)[j / 2] = F (j / 2) := by simp
      rcases Nat.mod_two_eq_zero_or_one j with h0 | h1
      · have e : j = j / 2 * 2 := by omega
        rw [e, fldCells_at0 _ _ hlt, hFe] at hj
        rw [e, ← hj]
        have e2 : j / 2 * 2 / 2 = j / 2 := by omega
        exact hcells.1
      · have e : j = j / 2 * 2 + 1 := by omega
        rw [e, fldCells_at1 _ _ hlt, hFe] at hj
        rw [e, ← hj]
        exact hcells.2.1
    · simp only [List.mem_map, List.mem_range] at hf
      obtain ⟨i, hin, rfl⟩ := hf
      have hd := (hF i (by omega)).2.2
      have hx1 : d = DataW.slice ((List.range n).map D) ((List.range (m - n)).map fun j => D (n + j)) := congrArg Prod.fst hx
      have hw : ∀ x ∈ (D i).weights P e, x ≤ B := fun x hxm => hB x (by
        rw [hx1]
        simp only [DataW.weights, ht, List.mem_cons, List.mem_append]
        exact Or.inr (Or.inl (weightsAll_mem (i := i) (by simp [hin]) hxm)))
      rw [hd] at hw
      simp only [DataW.weights, hu, DataW.weightsEach, List.map_cons, List.map_nil] at hw
      simp only [List.append_nil, List.mem_append, List.mem_singleton] at hw
      exact ⟨by rw [← sz_data]; exact hw _ (Or.inl rfl), by rw [← sz_data]; exact hw _ (Or.inr rfl)⟩
    · have hx1 : d = DataW.slice ((List.range n).map D) ((List.range (m - n)).map fun j => D (n + j)) := congrArg Prod.fst hx
      have := hB ((((List.range n).map D).length + ((List.range (m - n)).map fun j => D (n + j)).length) * P.bytesOf e) (by
        rw [hx1]
        simp [DataW.weights, ht])
      simp only [List.length_map, List.length_range] at this
      exact Nat.le_trans (Nat.mul_le_mul_right _ (by omega)) this
end

/-- An array of two strings by value, opened. -/
theorem open_arr2 {H : Type} {enc : TypeId × Value → H} {P : Program} {w : World} {base : Nat} {spare : Nat → Bool} {held : Bool} {t S : TypeId} {v : Value} {d : DataW H} {p : List MemPlace} {r : Reach} {b0 : Nat}
    (ht : P.underlying t = some (.array 2 S)) (hS : P.underlying S = some .string) (hc : P.cellsOf S = 1) (hct : P.cellsOf t = 2) (hv : Value.okWide P w r b0 t v) (h : DataW.Trod enc P w base spare held t v d p) :
    ∃ a b : ByteArray, v = .agg #[.string a, .string b] ∧ (∀ B, (∀ x ∈ d.weights P t, x ≤ B) → a.size ≤ B ∧ b.size ≤ B) := by
  simp only [Value.okWide, ht] at hv
  obtain ⟨cs, rfl, hsz, _⟩ := hv
  rw [hct] at hsz
  obtain ⟨fuel, hf⟩ := h
  obtain ⟨xs, m, _, hx, _, hlen, hg⟩ := DataW.trod_array ht hf
  obtain ⟨l⟩ := cs
  match l, hsz with
  | [c0, c1], _ =>
    match xs, hlen with
    | [y0, y1], _ =>
      have g0 := hg 0 (by omega)
      have g1 := hg 1 (by omega)
      simp only [Value.cells, hc, Nat.zero_mul, List.drop_zero, List.take_succ_cons, List.take_zero, List.getElem?_cons_zero] at g0
      simp only [Value.cells, hc, Nat.one_mul, List.drop_succ_cons, List.drop_zero, List.take_succ_cons, List.take_zero, List.getElem?_cons_succ, List.getElem?_cons_zero] at g1
      obtain ⟨a, ha, ha1, _⟩ := DataW.trod_string hS g0
      obtain ⟨b, hb, hb1, _⟩ := DataW.trod_string hS g1
      simp only [List.cons.injEq, and_true] at ha hb
      subst ha; subst hb; subst ha1; subst hb1
      refine ⟨a, b, rfl, fun B hB => ?_⟩
      have hd := congrArg Prod.fst hx
      simp only [List.map_cons, List.map_nil] at hd
      rw [hd] at hB
      simp only [DataW.weights, ht, DataW.weightsAll, List.append_nil, List.mem_append, List.mem_singleton] at hB
      exact ⟨by rw [← sz_data]; exact hB _ (Or.inl rfl), by rw [← sz_data]; exact hB _ (Or.inr rfl)⟩

/-- What one argument weighs, out of what all do. -/
theorem weights_one {H : Type} {P : Program} {ts : List TypeId} {ds : List (DataW H)} (h : (DataW.weightsEach P ts ds).all (· ≤ reachBytes) = true) {j : Nat} {t : TypeId} {d : DataW H}
    (ht : ts[j]? = some t) (hd : ds[j]? = some d) : ∀ x ∈ d.weights P t, x ≤ 140737488351232 := fun x hx => by
  have := List.all_eq_true.1 h _ (DataW.weights_mem_each ht hd x hx)
  exact of_decide_eq_true this
end Go.Proofs.YtphgaommokgfcaaDoor

namespace Go.Proofs.YtphgaommokgfcaaDoor
open Go.ChangeShapes Go.WideShapes Go.Deep Go.RowKit

theorem bulk_app {H : Type} (l r : List (DataW H)) : Rows.uptoBulkAll (l ++ r) = Rows.uptoBulkAll l + Rows.uptoBulkAll r := by
  induction l with
  | nil => simp [Rows.uptoBulkAll]
  | cons x l ih => simp only [List.cons_append, Rows.uptoBulkAll, ih]; omega
theorem bulk_strs {H : Type} (l : List ByteArray) : Rows.uptoBulkAll (H := H) (l.map fun s => DataW.lit (.string s.data.toList)) = l.length + totS l := by
  induction l with
  | nil => rfl
  | cons x l ih =>
    simp only [List.map_cons, Rows.uptoBulkAll, ih, Rows.uptoBulk, List.length_cons, totS, List.sum_cons, Array.length_toList]
    show x.size + 1 + _ = _
    omega
theorem bulk_flds {H : Type} (l : List Fd) : Rows.uptoBulkAll (H := H) (l.map fun f => DataW.agg [.lit (.string f.1.data.toList), .lit (.string f.2.data.toList)]) = 3 * l.length + sumF l := by
  induction l with
  | nil => rfl
  | cons x l ih =>
    simp only [List.map_cons, Rows.uptoBulkAll, ih, Rows.uptoBulk, List.length_cons, sumF, List.sum_cons, Array.length_toList]
    show (x.1.size + 1) + ((x.2.size + 1) + 0) + 1 + _ = _
    omega
/-- The bound of an Upto statement. -/
theorem bulk_of {H : Type} {l : List (DataW H)} (hk : Rows.uptoSmall H l = true) : Rows.uptoBulkAll l ≤ 1048576 := of_decide_eq_true hk

section
variable {H : Type} {enc : TypeId × Value → H} {P : Program} {w : World} {base : Nat} {spare : Nat → Bool} {held : Bool}
/-- A slice of strings, opened. -/
theorem open_strsL {t e : TypeId} {A : Option Addr} {n c : Nat} {d : DataW H} {p : List MemPlace} (ht : P.underlying t = some (.slice e)) (he : P.underlying e = some .string) (hce : P.cellsOf e = 1)
    (h : DataW.Trod enc P w base spare held t (.slice A n c) d p) :
    ∃ L : List ByteArray, RdS w A n L ∧ n ≤ maxLen ∧ n ≤ c ∧ L.length + totS L + 1 ≤ Rows.uptoBulk d := by
  obtain ⟨fuel, hf⟩ := h
  have hf' : DataW.trod enc P w base spare held fuel t [.slice A n c] = some (d, p) := by simpa [Value.cells] using hf
  rcases open_strings ht he hce hf' with ⟨hcs, hx⟩ | ⟨a, len, cap, ss, hcs, hb, hl, hm, hlen, hx, hi⟩
  · simp only [List.cons.injEq, Value.slice.injEq, and_true] at hcs
    obtain ⟨rfl, rfl, rfl⟩ := hcs
    obtain rfl : d = .nil := congrArg Prod.fst hx
    exact ⟨[], Rd.none_ _ _ _, by simp [maxLen], Nat.le_refl _, by simp [totS, Rows.uptoBulk]⟩
  · simp only [List.cons.injEq, Value.slice.injEq, and_true] at hcs
    obtain ⟨rfl, rfl, rfl⟩ := hcs
    have hnl : n ≤ ss.length := by rw [hlen]; split <;> omega
    have htl : (ss.take n).length = n := by rw [List.length_take]; omega
    refine ⟨ss.take n, ⟨by simp; omega, fun hpos => ?_⟩, by omega, hl, ?_⟩
    · obtain ⟨b, o, sp⟩ := a
      have h0 : 0 < ss.length := by
        rw [List.length_map, htl] at hpos; omega
      have hc0 := hi.1 0 h0
      have hsp : sp = none := by simpa [Addr.add] using World.cell?_spot hc0
      subst hsp
      refine ⟨b, o, rfl, fun j u hu => ?_⟩
      rw [List.getElem?_map, List.getElem?_take] at hu
      split at hu
      · rename_i hjn
        obtain ⟨s, hs, rfl⟩ := Option.map_eq_some_iff.1 hu
        obtain ⟨hjl, he⟩ := List.getElem?_eq_some_iff.1 hs
        have := hi.1 j hjl
        rw [add_plain, List.getD_eq_getElem?_getD, hs] at this
        exact this
      · simp at hu
    · obtain rfl : d = _ := congrArg Prod.fst hx
      simp only [Rows.uptoBulk]
      have := bulk_strs (H := H) (ss.take n)
      unfold strs
      omega
end

/-- THERE IS AN INPUT THAT FITS: a row that lists variables. -/
theorem witU {H : Type} {enc : TypeId × Value → H} {C : Checked} {os : Os} {f : FuncId} {fn : Func} {s : OpenSpec} {conds : List PathCond} {apart : Bool} {laid : List (String × DataW Unit)} (args : Array Value)
    (hv : ((World.laidAll C.prog os laid).forCall (fun _ _ => 0) ⟨#[], args, []⟩).variablesZipB C.prog = true)
    (hr : (((World.laidAll C.prog os laid).forCall (fun _ _ => 0) ⟨#[], args, []⟩).heap.toList.drop C.prog.globals.size).take ((begin C.prog (fun _ _ => 0) default).world.heap.size - C.prog.globals.size) =
      (begin C.prog (fun _ _ => 0) default).world.heap.toList.drop C.prog.globals.size)
    (hok : Input.okWideB C.prog ((World.laidAll C.prog os laid).forCall (fun _ _ => 0) ⟨#[], args, []⟩) f ⟨#[], args, []⟩ = true)
    (hrow : s.preRow enc C.prog fn conds apart laid ((World.laidAll C.prog os laid).forCall (fun _ _ => 0) ⟨#[], args, []⟩).memory args) :
    ∃ (w : World) (tape : Tape) (i : Input), w.os = os ∧ (w.forCall tape i).Shaped C.prog ∧ i.vars = [] ∧ Input.okWide C.prog (w.forCall tape i) .any w.heap.size f i ∧
      s.preRow enc C.prog fn conds apart laid (w.forCall tape i).memory i.args ∧ ({} : Assume).holds C.prog (lone (Frame.enter C.prog f i.args .normal) [] (w.forCall tape i)) :=
  ⟨World.laidAll C.prog os laid, fun _ _ => 0, ⟨#[], args, []⟩, World.laidAll_os _ _ _, World.shaped_of_ZipB hv hr, (Input.okWide_of_okWideB (base := 0) hok).1, (Input.okWide_of_okWideB hok).2, hrow, by
    simp only [Assume.holds]
    exact ⟨by simp, by simp, fun _ => Modest.zero, by simp, by simp⟩⟩
end Go.Proofs.YtphgaommokgfcaaDoor

namespace Go.Proofs.YtphgaommokgfcaaDoor
open Go.RowKit Go.ChangeShapes

theorem laid_in {P : Program} {W : World} : ∀ {laid : List (String × DataW Unit)} {ps : List MemPlace}, DataW.LaidVars P W laid ps → ∀ x ∈ laid,
    ∃ g t cs fuel p, P.globalNamed x.1 = some g ∧ (P.globals[g]?).map (·.type) = some t ∧ W.var? P x.1 = some cs ∧ DataW.trod (fun _ => ()) P W 0 (fun _ => true) false fuel t cs.toList = some (x.2, p)
  | [], _, _, x, hx => by cases hx
  | (n, d) :: r, ps, h, x, hx => by
    obtain ⟨g, t, cs, fuel, p, q, h1, h2, h3, h4, h5, _⟩ := h
    rcases List.mem_cons.1 hx with rfl | hx
    · exact ⟨g, t, cs, fuel, p, h1, h2, h3, h4⟩
    · exact laid_in h5 x hx
theorem cells_arr {α : Type} {P : Program} {w : World} {base : Nat} {sp : Nat → Bool} {held : Bool} {fuel : Nat} {t e : TypeId} {n : Nat} {cs : List Value} {l : List α} {p : List MemPlace} (lit : α → DataW Unit) (cell : α → Value)
    (ht : P.underlying t = some (.array n e)) (hce : P.cellsOf e = 1) (hct : P.cellsOf t = n)
    (hone : ∀ m c a q, DataW.trod (fun _ => ()) P w base sp held m e [c] = some (lit a, q) → c = cell a)
    (h : DataW.trod (fun _ => ()) P w base sp held fuel t cs = some (.agg (l.map lit), p)) : cs = l.map cell := by
  obtain ⟨xs, m, rfl, hx, hlen, hxl, hg⟩ := DataW.trod_array ht h
  have hm : l.map lit = xs.map (·.1) := by
    have := congrArg Prod.fst hx
    simpa using this
  have hll : l.length = n := by
    have := congrArg List.length hm
    simp at this
    omega
  apply List.ext_getElem (by simp; omega)
  intro i h1 h2
  have hi : i < n := by omega
  have h3 := hg i hi
  rw [hce, Nat.mul_one] at h3
  have h4 : (cs.drop i).take 1 = [cs[i]] := by
    rw [List.drop_eq_getElem_cons h1]; rfl
  have hix : i < xs.length := by omega
  rw [h4, List.getElem?_eq_getElem hix] at h3
  have h5 : lit (l[i]'(by omega)) = (xs[i]).1 := by
    have := congrArg (·[i]?) hm
    simpa [hix, show i < l.length by omega] using this
  rw [List.getElem_map]
  refine hone m _ _ (xs[i]).2 ?_
  rw [h3, h5]
theorem tab_rd {α : Type} {P : Program} {W : World} {laid : List (String × DataW Unit)} {name : String} {g : Nat} {t e : TypeId} {n : Nat} {l : List α} (lit : α → DataW Unit) (cell : α → Value)
    (hp : (laid.all fun x => x.2.handleName?.isNone) = true) (h : laidMetH P laid W) (hin : (name, .agg (l.map lit)) ∈ laid) (hg : P.globalNamed name = some g) (hty : (P.globals[g]?).map (·.type) = some t)
    (ht : P.underlying t = some (.array n e)) (hce : P.cellsOf e = 1) (hct : P.cellsOf t = n)
    (hone : ∀ m c a q, DataW.trod (fun _ => ()) P W 0 (fun _ => true) false m e [c] = some (lit a, q) → c = cell a) (hl : l.length = n) : Rd W 1 (some ⟨g, 0, none⟩) n (l.map cell) := by
  rw [MakeChecks.laidMetH_plain _ _ _ hp] at h
  obtain ⟨ps, hv, _⟩ := h
  obtain ⟨g', t', cs, fuel, p, h1, h2, h3, h4⟩ := laid_in hv _ hin
  obtain rfl := Option.some.inj (hg.symm.trans h1)
  obtain rfl := Option.some.inj (hty.symm.trans h2)
  have hc := cells_arr lit cell ht hce hct hone h4
  refine ⟨by simp [hl], fun _ => ⟨g, 0, rfl, fun j u hu => ?_⟩⟩
  rw [Nat.zero_add, World.var?_cell hg h3 j, ← Array.getElem?_toList, hc]
  exact hu
theorem one_str {P : Program} {w : World} {base : Nat} {sp : Nat → Bool} {held : Bool} {e : TypeId} (he : P.underlying e = some .string) (m : Nat) (c : Value) (a : ByteArray) (q : List MemPlace)
    (h : DataW.trod (fun _ => ()) P w base sp held m e [c] = some (.lit (.string a.data.toList), q)) : c = .string a := by
  obtain ⟨s, h1, h2, _⟩ := DataW.trod_string he h
  simp only [List.cons.injEq, and_true] at h1
  simp only [Prod.mk.injEq, DataW.lit.injEq, Lit.string.injEq] at h2
  rw [h1, bytes_ext h2.1]
theorem one_int {P : Program} {w : World} {base : Nat} {sp : Nat → Bool} {held : Bool} {e : TypeId} {k : IntKind} (he : P.underlying e = some (.int k)) (m : Nat) (c : Value) (a : Int) (q : List MemPlace)
    (h : DataW.trod (fun _ => ()) P w base sp held m e [c] = some (.lit (.int k a), q)) : c = .int k a := by
  obtain ⟨s, h1, h2, _⟩ := DataW.trod_int he h
  simp only [List.cons.injEq, and_true] at h1
  simp only [Prod.mk.injEq, DataW.lit.injEq, Lit.int.injEq, true_and] at h2
  rw [h1, h2.1]
end Go.Proofs.YtphgaommokgfcaaDoor

namespace Go.Proofs.YtphgaommokgfcaaDoor
open Go.RowKit Go.ChangeShapes

set_option maxRecDepth 100000 in
/-- The three tables of httpdate, out of a row's condition. -/
theorem glH_of {W : World} {laid : List (String × DataW Unit)} (hp : (laid.all fun x => x.2.handleName?.isNone) = true) (h : laidMetH Tryd.prog laid W)
    (h1 : ("quayside/httpdate.months", Rows.laid_quayside_httpdate_months) ∈ laid) (h2 : ("quayside/httpdate.weekdays", Rows.laid_quayside_httpdate_weekdays) ∈ laid) (h3 : ("quayside/httpdate.lengths", Rows.laid_quayside_httpdate_lengths) ∈ laid) : GlH W :=
  ⟨tab_rd (l := moL) (fun s => .lit (.string s.data.toList)) Value.string hp h h1 (by kernel_rfl) (by kernel_rfl) Tryd.underlying107 (by kernel_rfl) (by kernel_rfl) (one_str Tryd.underlying9) rfl,
   tab_rd (l := wdL) (fun s => .lit (.string s.data.toList)) Value.string hp h h2 (by kernel_rfl) (by kernel_rfl) Tryd.underlying121 (by kernel_rfl) (by kernel_rfl) (one_str Tryd.underlying9) rfl,
   tab_rd (l := leL) (fun z => .lit (.int .i64 z)) (Value.int .i64) hp h h3 (by kernel_rfl) (by kernel_rfl) Tryd.underlying132 (by kernel_rfl) (by kernel_rfl) (one_int Tryd.underlying3) rfl⟩
end Go.Proofs.YtphgaommokgfcaaDoor

namespace Go.Proofs.YtphgaommokgfcaaDoor
open Go.RowKit

theorem gl_of {w : World} (h : w.ShapedOpen Tryd.prog) : Gl w :=
  Go.Proofs.cell_of_shapedOpen_int (zero := #[.int .i64 0]) (t := 3) h (of_decide_eq_true (by kernel_rfl)) (by kernel_rfl) rfl (by kernel_rfl) (by kernel_rfl) Tryd.underlying3
theorem u8_wf {x : Int} (h : (Lit.int .u8 x).wf = true) : 0 ≤ x ∧ x ≤ 255 := by
  simp [Lit.wf] at h
  have e1 : IntKind.u8.min = 0 := rfl
  have e2 : IntKind.u8.max = 255 := rfl
  omega
end Go.Proofs.YtphgaommokgfcaaDoor

namespace Go.Proofs.YtphgaommokgfcaaDoor
open Go.RowKit

theorem tot15_two (Aq : Option Addr) (nq cq : Nat) (rq : List Fd) (Ar : Option Addr) (nr cr : Nat) (rp : List Fd) : tot15 [((Aq, nq, cq), rq), ((Ar, nr, cr), rp)] = 2 * rq.length + sumF rq + (2 * rp.length + sumF rp) := by
  simp [tot15, one15]
theorem large_two (Aq : Option Addr) (nq cq : Nat) (rq : List Fd) (Ar : Option Addr) (nr cr : Nat) (rp : List Fd) (w : World) (hfq : RdF w Aq nq rq) (hfr : RdF w Ar nr rp) (hbq : rq.length + sumF rq ≤ 1048576) (hbr : rp.length + sumF rp ≤ 1048576) (b : Nat) (hb : b = w.heap.size) :
    Calls Tryd.prog 9 #[.slice (some ⟨b, 0, none⟩) 2 2] (w.alloc (.cells #[.slice Aq nq cq, .slice Ar nr cr] 22)) fun e w' => e = .returned (.bool (decide (4000 < tot15 [((Aq, nq, cq), rq), ((Ar, nr, cr), rp)]))) ∧ Ext w w' := by
  subst hb
  have hE := (Ext.refl w).alloc (.cells #[.slice Aq nq cq, .slice Ar nr cr] 22)
  have hr : Rd (w.alloc (.cells #[.slice Aq nq cq, .slice Ar nr cr] 22)) 1 (some ⟨w.heap.size, 0, none⟩) 2 (([((Aq, nq, cq), rq), ((Ar, nr, cr), rp)] : List Sl).map slV) := Rd.lit w #[.slice Aq nq cq, .slice Ar nr cr] 22 rfl 1 2 rfl
  refine (law15_large _ 2 2 [((Aq, nq, cq), rq), ((Ar, nr, cr), rp)] _ hr ?_ (by rw [tot15_two]; omega) (by decide)).mono ?_
  · intro t ht
    simp only [List.mem_cons, List.not_mem_nil, or_false] at ht
    rcases ht with rfl | rfl
    · exact hfq.ext hE
    · exact hfr.ext hE
  · rintro e w1 ⟨rfl, h⟩
    exact ⟨rfl, hE.trans h⟩
theorem large_no {Aq : Option Addr} {nq cq : Nat} {rq : List Fd} {Ar : Option Addr} {nr cr : Nat} {rp : List Fd} {w : World} (hfq : RdF w Aq nq rq) (hfr : RdF w Ar nr rp) (h : decide (4000 < tot15 [((Aq, nq, cq), rq), ((Ar, nr, cr), rp)]) = false) :
    nq ≤ 2000 ∧ nr ≤ 2000 ∧ sumF rq + 2 * nq ≤ 4000 ∧ sumF rp + 2 * nr ≤ 4000 ∧ Bsz 4000 rq ∧ Bsz 4000 rp := by
  have h1 := of_decide_eq_false h
  rw [tot15_two] at h1
  have h2 := hfq.lenF
  have h3 := hfr.lenF
  exact ⟨by omega, by omega, by omega, by omega, (bsz_of_sumF15 rq).mono (by omega), (bsz_of_sumF15 rp).mono (by omega)⟩
theorem own_made15 {w0 w : World} {e : TypeId} (h : Ext w0 w) : (w.alloc (.cells #[] e)).ownsRow w0.heap.size e 2 (.slice (some ⟨w.heap.size, 0, none⟩) 0 0) 0 [] :=
  own_base (World.ownsRow_made w #[] 0 (Nat.le_refl _) (by simp [maxLen]) rfl) h.size
theorem rd_one15 {w0 w : World} {e : TypeId} {a b : ByteArray} (_ : Ext w0 w) : RdF (w.alloc (.cells #[.string a, .string b] e)) (some ⟨w.heap.size, 0, none⟩) 1 [(a, b)] := Rd.two _ _ _ _ rfl
theorem bsz_add {B : Nat} {fs : List Fd} {a b : ByteArray} (h : Bsz B fs) (ha : a.size ≤ B) (hb : b.size ≤ B) : Bsz B (fs ++ [(a, b)]) := by
  intro f hf
  rcases List.mem_append.1 hf with h1 | h1
  · exact h f h1
  · rw [List.mem_singleton] at h1; subst h1; exact ⟨ha, hb⟩
theorem own_far15 {w : World} {base e k n c : Nat} {A : Option Addr} {xs : List Value} (h : w.ownsRow base e k (.slice A n c) n xs) : ∀ a, A = some a → base ≤ a.block := own_far h
theorem step_appG {P : Program} (w : World) {ops : Array Oper} {o : Oper} {a : Act} {K : Act → World → Prop} {Q : Exit → Act → World → Prop} {E : Prop} (hgd : o.guard = none) (s x : Operand) (t : TypeId)
    (ho : o.op = .call { callee := .builtin .append, args := #[s, x], argTypes := #[t, t] })
    (w0 : World) (e : TypeId) (z : Value) (size bytes : Nat) (ht : P.underlying t = some (.slice e))
    (hinfo : (P.info? e).map (fun i => (i.zero, i.size, i.bytes)) = some (some z, size, bytes)) (hzs : z.cells.size = size) (hsz : 0 < size)
    (v : Value) (n : Nat) (xs : List Value) (hs : a.eval s = v) (hown : w.ownsRow w0.heap.size e size v n xs)
    (A : Option Addr) (m c : Nat) (news : List Value) (hx : a.eval x = .slice A m c) (hr : Rd w size A m news) (h1 : ∀ u ∈ news, u.oneCell' = true)
    (hb : Ext w0 w) (hbytes : (n + m) * bytes ≤ 140737488355328) (hby0 : 0 < bytes)
    (h : ∀ A' c' w', w'.ownsRow w0.heap.size e size (.slice A' (n + m) c') (n + m) (xs ++ news) → Ext w0 w' → n + m ≤ c' → w.grownBy w' v.ownBlock → K (a.put o.dst (.slice A' (n + m) c')) w') :
    if Region.wanted o (yielded ops a.tmps) = true then Oper.wp P o a w K Q else E := by
  rw [if_pos (by simp [Region.wanted, hgd])]
  have h63 : n + m ≤ maxLen := by
    have : (n + m) * 1 ≤ (n + m) * bytes := Nat.mul_le_mul_left _ hby0
    simp only [maxLen]; omega
  obtain ⟨v', w', hrun, h2, h3⟩ := run_app (P := P) w w0.heap.size t o.type e z size bytes ht hinfo hzs hsz v n xs hown A m c news hr h1 h63 hbytes hb.size
  obtain ⟨A', c', rfl, hle⟩ := own_shape h2
  unfold Oper.wp execOp
  simp only [ho, resolve, invoke, builtin, Sem.run_bind, Sem.run_pure, Result.andThen_ok, List.map_toArray, List.map_cons, List.map_nil, hs, hx, hrun]
  exact h A' c' w' h2 (hb.grown h3 (fun k hk => (hown.lt k hk).1)) hle h3
end Go.Proofs.YtphgaommokgfcaaDoor

namespace Go.Proofs.YtphgaommokgfcaaDoor
open Go.RowKit

def fbL : List Fd := [(ccN, nsW), (ccN, pxW), (scN, abW), (vaN, asW), (vaN, opW)]
theorem fbL_sz : ∀ f ∈ fbL, f.1.size ≤ 20 ∧ f.2.size ≤ 20 := by decide +kernel
theorem fb_reason (g : Bool) (rq : List Fd) (st : Int) (rp : List Fd) {k : Nat} (hk : k < fbL.length) : rsS g rq st (rp ++ [fbL[k]]) ≠ 0 ∧ rsS g rq st (rp ++ [fbL[k]]) ≠ 8 ∧ rsS g rq st (rp ++ [fbL[k]]) ≠ 7 :=
  rs_early (forbids rp fbL[k] (List.getElem_mem hk))
set_option maxHeartbeats 16000000 in
set_option maxRecDepth 100000 in
theorem forbids_walk (me : ByteArray) (Aq : Option Addr) (nq cq : Nat) (rq : List Fd) (Ar : Option Addr) (nr cr : Nat) (rp : List Fd) (st : Int) (x : Int) (w : World) (hfq : RdF w Aq nq rq) (hfr : RdF w Ar nr rp) (hbq : rq.length + sumF rq ≤ 1048576) (hbr : rp.length + sumF rp ≤ 1048576) (hg : GlH w) (hgl : Gl w) (hx0 : 0 ≤ x) (hx1 : x ≤ 255) :
    Calls Tryd.prog 3 #[.agg #[.string me, .slice Aq nq cq, .slice Ar nr cr, .int .i64 st], .int .u8 x] w fun e w' => e = .returned (.bool true) ∧ Ext w w' := by
  obtain ⟨k, hk5, hxk⟩ : ∃ k : Nat, k < 5 ∧ x % 5 = (k : Int) := ⟨(x % 5).toNat, by omega, by omega⟩
  have hrem : x.tmod 5 = (k : Int) := by rw [Int.tmod_eq_emod_of_nonneg hx0]; exact hxk
  have hwr : IntKind.u8.wrap (k : Int) = (k : Int) := IntWalk.u8_in _ (by omega)
  have hE0 := (Ext.refl w).alloc (.cells #[.string me, .slice Aq nq cq, .slice Ar nr cr, .int .i64 st] 24)
  have HB := Lib.hid (Blk.new w 24 #[.string me, .slice Aq nq cq, .slice Ar nr cr, .int .i64 st])
  have HLg := Lib.hid (fun w' (h : Ext w w') => large_two Aq nq cq rq Ar nr cr rp w' (hfq.ext h) (hfr.ext h) hbq hbr)
  have Hno := Lib.hid (fun h => @large_no Aq nq cq rq Ar nr cr rp w hfq hfr h)
  have HE0 := Lib.hid hE0
  clear hE0 hbq hbr
  go_enter Tryd.func3, Tryd.ntmps3
  go_wp2_with fail
  refine (HLg.out _ HE0.out (w.heap.size + 1) (by rw [World.size_alloc])).mono ?_; rintro e w1 ⟨rfl, hb1⟩
  generalize decide (4000 < tot15 [((Aq, nq, cq), rq), ((Ar, nr, cr), rp)]) = lg at *
  generalize w.alloc (.cells #[.string me, .slice Aq nq cq, .slice Ar nr cr, .int .i64 st] 24) = W0 at *
  have HB1 := Lib.hid (HB.out.ext hb1)
  have hw1 := HE0.out.trans hb1
  cases lg
  rotate_left
  · generalize w.heap.size = b at *
    have s1 : w1.cell? ⟨b, 1, none⟩ = some (.slice Aq nq cq) := HB1.out.cell 1
    have s2 : w1.cell? ⟨b, 2, none⟩ = some (.slice Ar nr cr) := HB1.out.cell 2
    go_wp2_with fail
    refine (HLg.out _ hw1 _ rfl).mono ?_; rintro e w2 ⟨rfl, hb2⟩
    go_wp2_with fail
    go_ret
    exact ⟨rfl, hw1.trans hb2⟩
  obtain ⟨hnq, hnr, hsq, hsr, hzq, hzr⟩ := Hno.out rfl
  have HZ := Lib.hid (⟨hzq.mono (by decide), hzr.mono (by decide)⟩ : Bsz 1048576 rq ∧ Bsz 1048576 rp)
  clear Hno HLg hzq hzr
  go_wp2_with fail
  refine (law15_awake _ (hg.ext hw1) (hgl.ext hw1)).mono ?_; rintro e w2 ⟨rfl, hb2⟩
  have HB2 := Lib.hid (HB1.out.ext hb2)
  have HE2 := Lib.hid (hw1.trans hb2)
  clear HB HB1 HE0 hb1 hb2 hw1
  have hbw := HB2.out.lt
  generalize hbs : w.heap.size = b at *
  have Hwb := Lib.hid (Nat.le_of_eq hbs)
  clear hbs
  have c0 : w2.cell? ⟨b, 0, none⟩ = some (.string me) := HB2.out.cell 0
  have c1 : w2.cell? ⟨b, 1, none⟩ = some (.slice Aq nq cq) := HB2.out.cell 1
  have c2 : w2.cell? ⟨b, 2, none⟩ = some (.slice Ar nr cr) := HB2.out.cell 2
  have c3 : w2.cell? ⟨b, 3, none⟩ = some (.int .i64 st) := HB2.out.cell 3
  have z0 := HB2.out.frozen
  have hkL : k < fbL.length := hk5
  have hlit : RdF (w2.alloc (.cells #[.string ⟨#[99, 97, 99, 104, 101, 45, 99, 111, 110, 116, 114, 111, 108]⟩, .string ⟨#[110, 111, 45, 115, 116, 111, 114, 101]⟩, .string ⟨#[99, 97, 99, 104, 101, 45, 99, 111, 110, 116, 114, 111, 108]⟩, .string ⟨#[112, 114, 105, 118, 97, 116, 101, 61, 34, 120, 34]⟩, .string ⟨#[115, 101, 116, 45, 99, 111, 111, 107, 105, 101]⟩, .string ⟨#[97, 61, 98]⟩, .string ⟨#[118, 97, 114, 121]⟩, .string ⟨#[97, 99, 99, 101, 112, 116, 44, 32, 42]⟩, .string ⟨#[118, 97, 114, 121]⟩, .string ⟨#[34, 111, 112, 101, 110]⟩] 28)) (some ⟨w2.heap.size, 0, none⟩) 5 fbL := Rd.lit w2 #[.string ⟨#[99, 97, 99, 104, 101, 45, 99, 111, 110, 116, 114, 111, 108]⟩, .string ⟨#[110, 111, 45, 115, 116, 111, 114, 101]⟩, .string ⟨#[99, 97, 99, 104, 101, 45, 99, 111, 110, 116, 114, 111, 108]⟩, .string ⟨#[112, 114, 105, 118, 97, 116, 101, 61, 34, 120, 34]⟩, .string ⟨#[115, 101, 116, 45, 99, 111, 111, 107, 105, 101]⟩, .string ⟨#[97, 61, 98]⟩, .string ⟨#[118, 97, 114, 121]⟩, .string ⟨#[97, 99, 99, 101, 112, 116, 44, 32, 42]⟩, .string ⟨#[118, 97, 114, 121]⟩, .string ⟨#[34, 111, 112, 101, 110]⟩] 28 rfl 2 5 rfl
  obtain ⟨b5, o5, hbo, hl0, hl1⟩ := hlit.atF hkL
  injection hbo with hbo
  injection hbo with e1 e2
  subst e1; subst e2
  rw [Nat.zero_add] at hl0 hl1
  have Hfz := Lib.hid (fbL_sz fbL[k] (List.getElem_mem hkL))
  have Hrs := Lib.hid (fun g => fb_reason g rq st rp hkL)
  generalize fbL[k] = fx at *
  obtain ⟨fa, fv⟩ := fx
  simp only at hl0 hl1 Hfz
  clear hlit hkL
  go_wp2_with fail
  have HBa := Lib.hid ((HB2.out.alloc (.cells #[.string ⟨#[99, 97, 99, 104, 101, 45, 99, 111, 110, 116, 114, 111, 108]⟩, .string ⟨#[110, 111, 45, 115, 116, 111, 114, 101]⟩, .string ⟨#[99, 97, 99, 104, 101, 45, 99, 111, 110, 116, 114, 111, 108]⟩, .string ⟨#[112, 114, 105, 118, 97, 116, 101, 61, 34, 120, 34]⟩, .string ⟨#[115, 101, 116, 45, 99, 111, 111, 107, 105, 101]⟩, .string ⟨#[97, 61, 98]⟩, .string ⟨#[118, 97, 114, 121]⟩, .string ⟨#[97, 99, 99, 101, 112, 116, 44, 32, 42]⟩, .string ⟨#[118, 97, 114, 121]⟩, .string ⟨#[34, 111, 112, 101, 110]⟩] 28)).alloc (.cells #[.string fa, .string fv] 28))
  have HEa := Lib.hid ((HE2.out.alloc (.cells #[.string ⟨#[99, 97, 99, 104, 101, 45, 99, 111, 110, 116, 114, 111, 108]⟩, .string ⟨#[110, 111, 45, 115, 116, 111, 114, 101]⟩, .string ⟨#[99, 97, 99, 104, 101, 45, 99, 111, 110, 116, 114, 111, 108]⟩, .string ⟨#[112, 114, 105, 118, 97, 116, 101, 61, 34, 120, 34]⟩, .string ⟨#[115, 101, 116, 45, 99, 111, 111, 107, 105, 101]⟩, .string ⟨#[97, 61, 98]⟩, .string ⟨#[118, 97, 114, 121]⟩, .string ⟨#[97, 99, 99, 101, 112, 116, 44, 32, 42]⟩, .string ⟨#[118, 97, 114, 121]⟩, .string ⟨#[34, 111, 112, 101, 110]⟩] 28)).alloc (.cells #[.string fa, .string fv] 28))
  have hNa := Blk.new (w2.alloc (.cells #[.string ⟨#[99, 97, 99, 104, 101, 45, 99, 111, 110, 116, 114, 111, 108]⟩, .string ⟨#[110, 111, 45, 115, 116, 111, 114, 101]⟩, .string ⟨#[99, 97, 99, 104, 101, 45, 99, 111, 110, 116, 114, 111, 108]⟩, .string ⟨#[112, 114, 105, 118, 97, 116, 101, 61, 34, 120, 34]⟩, .string ⟨#[115, 101, 116, 45, 99, 111, 111, 107, 105, 101]⟩, .string ⟨#[97, 61, 98]⟩, .string ⟨#[118, 97, 114, 121]⟩, .string ⟨#[97, 99, 99, 101, 112, 116, 44, 32, 42]⟩, .string ⟨#[118, 97, 114, 121]⟩, .string ⟨#[34, 111, 112, 101, 110]⟩] 28)) 28 #[.string fa, .string fv]
  rw [World.size_alloc] at hNa
  have HNa := Lib.hid hNa
  clear hNa hl0 hl1 c0 c1 c2 c3 z0 HB2 HE2
  generalize (w2.alloc (.cells #[.string ⟨#[99, 97, 99, 104, 101, 45, 99, 111, 110, 116, 114, 111, 108]⟩, .string ⟨#[110, 111, 45, 115, 116, 111, 114, 101]⟩, .string ⟨#[99, 97, 99, 104, 101, 45, 99, 111, 110, 116, 114, 111, 108]⟩, .string ⟨#[112, 114, 105, 118, 97, 116, 101, 61, 34, 120, 34]⟩, .string ⟨#[115, 101, 116, 45, 99, 111, 111, 107, 105, 101]⟩, .string ⟨#[97, 61, 98]⟩, .string ⟨#[118, 97, 114, 121]⟩, .string ⟨#[97, 99, 99, 101, 112, 116, 44, 32, 42]⟩, .string ⟨#[118, 97, 114, 121]⟩, .string ⟨#[34, 111, 112, 101, 110]⟩] 28)).alloc (.cells #[.string fa, .string fv] 28) = W4 at *
  generalize w2.heap.size + 1 = fb at *
  have hb4 := HBa.out.lt
  have HC := Lib.hid (show ∀ w', Ext W4 w' → (w'.cell? ⟨b, 2, none⟩ = some (.slice Ar nr cr) ∧ w'.cell? ⟨fb, 0, none⟩ = some (.string fa) ∧ w'.cell? ⟨fb, 1, none⟩ = some (.string fv)) from fun w' h => ⟨(HBa.out.ext h).cell 2, (HNa.out.ext h).cell 0, (HNa.out.ext h).cell 1⟩)
  have HQ0 := Lib.hid hfq
  have HFr := Lib.hid (hfr.ext HEa.out)
  have HG := Lib.hid (⟨hg, hgl⟩ : _ ∧ _)
  clear hfq hfr hg hgl
  have hE := (Ext.refl W4).drew
  refine wp_region_U (S := (fun w' => w'.cell? ⟨b, 2, none⟩ = some (.slice Ar nr cr) ∧ w'.cell? ⟨fb, 0, none⟩ = some (.string fa) ∧ w'.cell? ⟨fb, 1, none⟩ = some (.string fv))) 8 (by kernel_rfl) ?_ (fun hHeld => ?_)
  · (try dsimp only); exact HC.out _ hE
  refine wpAnyU_takeW (i := 1) (oi := { dst := some 34, op := _, type := _, pos := _, after := _, guard := _ }) (v := ?_) (by kernel_rfl) rfl (by kernel_rfl) (by kernel_rfl) (by kernel_rfl) (fun _ _ _ h => h) (Or.inl ⟨by rfl, ?_⟩) (by assumption) ?_
  rotate_left
  · (intro w hSw; (try dsimp only at hSw); go_simp; (try with_reducible rfl))
  (try simp only [Act.put, List.setIfInBounds_toArray, List.set_cons_zero, List.set_cons_succ])
  refine wpAnyU_take (i := 2) (oi := { dst := some 35, op := _, type := _, pos := _, after := _, guard := _ }) (v := ?_) [3, 6, 7, 8] (by kernel_rfl) (by kernel_rfl) (by kernel_rfl) (by kernel_rfl) rfl (by kernel_rfl) (by kernel_rfl) (by kernel_rfl) (fun _ _ _ h => h) (Or.inl ⟨by rfl, ?_⟩) (by assumption) ?_
  rotate_left
  · (intro w hSw; (try dsimp only at hSw); go_simp; (try with_reducible rfl))
  (try simp only [Act.put, List.setIfInBounds_toArray, List.set_cons_zero, List.set_cons_succ])
  refine wpAnyU_take (i := 4) (oi := { dst := some 37, op := _, type := _, pos := _, after := _, guard := _ }) (v := ?_) [5, 6, 7, 8] (by kernel_rfl) (by kernel_rfl) (by kernel_rfl) (by kernel_rfl) rfl (by kernel_rfl) (by kernel_rfl) (by kernel_rfl) (fun _ _ _ h => h) (Or.inl ⟨by rfl, ?_⟩) (by assumption) ?_
  rotate_left
  · (intro w hSw; (try dsimp only at hSw); go_simp; (try with_reducible rfl))
  (try simp only [Act.put, List.setIfInBounds_toArray, List.set_cons_zero, List.set_cons_succ])
  refine wpAnyU_ready (rs := [0, 5]) (by kernel_rfl) (by simp) ?_
  refine AllReadyU.cons (o := { dst := some 33, op := _, type := _, pos := _, after := _, guard := _ }) rfl (fun K hK => ?_) (AllReadyU.cons (o := { dst := some 38, op := _, type := _, pos := _, after := _, guard := _ }) rfl (fun K hK => ?_) AllReadyU.nil)
  · have hoA := own_made15 (e := 28) hE; replace hE := hE.alloc (.cells #[] 28)
    go_simp
    skip
    try go_wp2_with fail
    refine hK.out _ _ ?_ (fun hHeld => ?_)
    · (try dsimp only); exact HC.out _ hE
    clear hK K
    (try simp only [Act.put, List.setIfInBounds_toArray, List.set_cons_zero, List.set_cons_succ])
    refine wpAnyU_ready (rs := [3, 5]) (by kernel_rfl) (by simp) ?_
    refine AllReadyU.cons (o := { dst := some 36, op := _, type := _, pos := _, after := _, guard := _ }) rfl (fun K hK => ?_) (AllReadyU.cons (o := { dst := some 38, op := _, type := _, pos := _, after := _, guard := _ }) rfl (fun K hK => ?_) AllReadyU.nil)
    · refine step_appG _ rfl (.tmp 33) (.tmp 35) 22 rfl W4 28 _ 2 32 Tryd.underlying22 infoRfd rfl (by decide) _ _ _ rfl hoA Ar nr cr (fldCells rp) rfl (HFr.out.ext hE) (fldCells_one _) hE (by omega) (by decide) ?_; intro A6 c6 w6 hoB hb6 hle6 hg6; rw [Nat.zero_add] at hoB hle6 ⊢; rw [List.nil_append] at hoB; replace hE := hb6; clear hb6 hg6
      refine hK.out _ _ ?_ (fun hHeld => ?_)
      · (try dsimp only); exact HC.out _ hE
      clear hK K
      (try simp only [Act.put, List.setIfInBounds_toArray, List.set_cons_zero, List.set_cons_succ])
      refine wpAnyU_ready (rs := [5]) (by kernel_rfl) (by simp) ?_
      refine AllReadyU.cons (o := { dst := some 38, op := _, type := _, pos := _, after := _, guard := _ }) rfl (fun K hK => ?_) AllReadyU.nil
      have hr5 := rd_one15 (e := 28) (a := fa) (b := fv) hE; replace hoB := hoB.alloc (.cells #[.string fa, .string fv] 28); replace hE := hE.alloc (.cells #[.string fa, .string fv] 28)
      go_simp
      skip
      try go_wp2_with fail
      refine hK.out _ _ ?_ (fun hHeld => ?_)
      · (try dsimp only); exact HC.out _ hE
      clear hK K
      (try simp only [Act.put, List.setIfInBounds_toArray, List.set_cons_zero, List.set_cons_succ])
      refine wpAnyU_ready (rs := [6]) (by kernel_rfl) (by simp) ?_
      refine AllReadyU.cons (o := { dst := some 39, op := _, type := _, pos := _, after := _, guard := _ }) rfl (fun K hK => ?_) AllReadyU.nil
      refine step_app _ rfl (.tmp 36) (.tmp 38) 22 rfl W4 28 _ 2 32 Tryd.underlying22 infoRfd rfl (by decide) _ _ _ rfl hoB _ 1 1 (fldCells [(fa, fv)]) rfl hr5 (fldCells_one _) hE (by omega) (by decide) ?_; intro A9 c9 w9 hoC hb9 hle9; replace hE := hb9; clear hb9
      refine hK.out _ _ ?_ (fun hHeld => ?_)
      · (try dsimp only); exact HC.out _ hE
      clear hK K
      (try simp only [Act.put, List.setIfInBounds_toArray, List.set_cons_zero, List.set_cons_succ])
      refine wpAnyU_takeW (i := 7) (oi := { dst := some 40, op := _, type := _, pos := _, after := _, guard := _ }) (v := ?_) (by kernel_rfl) rfl (by kernel_rfl) (by kernel_rfl) (by kernel_rfl) (fun _ _ _ h => h) (Or.inl ⟨by rfl, ?_⟩) (by assumption) ?_
      rotate_left
      · (intro w hSw; (try dsimp only at hSw); go_simp; (try with_reducible rfl))
      (try simp only [Act.put, List.setIfInBounds_toArray, List.set_cons_zero, List.set_cons_succ])
      refine wpAnyU_ready (rs := [8]) (by kernel_rfl) (by simp) ?_
      refine AllReadyU.stop (o := { dst := none, op := _, type := _, pos := _, after := _, guard := _ }) rfl (by kernel_rfl) (fun K hK => ?_) AllReadyU.nil
      have hcz := (HBa.out.ext hE).cell 2; have hfz := (HBa.out.ext hE).frozen 2
      go_simp
      skip
      try go_wp2_with fail
      refine hK.out _ _ ?_ (fun hHeld => ?_)
      · (try dsimp only); (try trivial)
      clear hK K
      (try simp only [Act.put, List.setIfInBounds_toArray, List.set_cons_zero, List.set_cons_succ])
      refine wpAnyH_done (by kernel_rfl) ?_ _
      have hYb := (HBa.out.ext hE).set_ 2 (.slice A9 (nr + 1) c9)
      have hX := (ExtB.refl b w9).set_ 2 (.slice A9 (nr + 1) c9)
      rw [← fldCells_app] at hoC
      have hfar := own_far hoC
      have hRn := Rd.growB (Rd.of_own hoC) hX (fun a ha => by have := hfar a ha; omega)
      have hEF := (HEa.out.trans hE).growB hX Hwb.out
      have Hcle := Lib.hid hle9
      clear hX hfar hoC
      generalize w9.setCell ⟨b, 2, none⟩ (.slice A9 (nr + 1) c9) = wF at *
      have y0 : wF.cell? ⟨b, 0, none⟩ = some (.string me) := hYb.cell 0
      have y1 : wF.cell? ⟨b, 1, none⟩ = some (.slice Aq nq cq) := hYb.cell 1
      have y2 : wF.cell? ⟨b, 2, none⟩ = some (.slice A9 (nr + 1) c9) := hYb.cell 2
      have y3 : wF.cell? ⟨b, 3, none⟩ = some (.int .i64 st) := hYb.cell 3
      have hFz := Hfz.out
      have hs1 : sumF [(fa, fv)] = fa.size + fv.size := by simp [sumF]
      have HOf := Lib.hid (law15_of me Aq nq cq rq A9 (nr + 1) c9 (rp ++ [(fa, fv)]) st wF (HQ0.out.ext hEF) hRn (by omega) (by omega) HZ.out.1 (bsz_add HZ.out.2 (by omega) (by omega)) (HG.out.1.ext hEF) (by rw [sumF_app15, hs1]; omega) (HG.out.2.ext hEF))
      have Hr3 := Hrs.out (isG me)
      generalize rsS (isG me) rq st (rp ++ [(fa, fv)]) = N at *
      obtain ⟨r1, r2, r3⟩ := Hr3
      have q1 : (N == 0) = false := by simpa using r1
      have q2 : (N == 8) = false := by simpa using r2
      have q3 : (N == 7) = false := by simpa using r3
      go_wp2_with fail
      refine HOf.out.mono ?_; rintro e w10 ⟨rfl, hb10⟩
      go_wp2_with fail
      go_ret
      exact ⟨ret_b (by simp [r1, r2, r3]), hEF.trans hb10⟩
    · have hr5 := rd_one15 (e := 28) (a := fa) (b := fv) hE; rw [World.size_alloc] at hr5; replace hoA := hoA.alloc (.cells #[.string fa, .string fv] 28); replace hE := hE.alloc (.cells #[.string fa, .string fv] 28)
      go_simp
      skip
      try go_wp2_with fail
      refine hK.out _ _ ?_ (fun hHeld => ?_)
      · (try dsimp only); exact HC.out _ hE
      clear hK K
      (try simp only [Act.put, List.setIfInBounds_toArray, List.set_cons_zero, List.set_cons_succ])
      refine wpAnyU_ready (rs := [3]) (by kernel_rfl) (by simp) ?_
      refine AllReadyU.cons (o := { dst := some 36, op := _, type := _, pos := _, after := _, guard := _ }) rfl (fun K hK => ?_) AllReadyU.nil
      refine step_appG _ rfl (.tmp 33) (.tmp 35) 22 rfl W4 28 _ 2 32 Tryd.underlying22 infoRfd rfl (by decide) _ _ _ rfl hoA Ar nr cr (fldCells rp) rfl (HFr.out.ext hE) (fldCells_one _) hE (by omega) (by decide) ?_; intro A6 c6 w6 hoB hb6 hle6 hg6; rw [Nat.zero_add] at hoB hle6 ⊢; rw [List.nil_append] at hoB; replace hr5 := Rd.growB hr5 hg6 (fun a ha => by cases ha; simp [World.size_alloc]); replace hE := hb6; clear hb6 hg6
      refine hK.out _ _ ?_ (fun hHeld => ?_)
      · (try dsimp only); exact HC.out _ hE
      clear hK K
      (try simp only [Act.put, List.setIfInBounds_toArray, List.set_cons_zero, List.set_cons_succ])
      refine wpAnyU_ready (rs := [6]) (by kernel_rfl) (by simp) ?_
      refine AllReadyU.cons (o := { dst := some 39, op := _, type := _, pos := _, after := _, guard := _ }) rfl (fun K hK => ?_) AllReadyU.nil
      refine step_app _ rfl (.tmp 36) (.tmp 38) 22 rfl W4 28 _ 2 32 Tryd.underlying22 infoRfd rfl (by decide) _ _ _ rfl hoB _ 1 1 (fldCells [(fa, fv)]) rfl hr5 (fldCells_one _) hE (by omega) (by decide) ?_; intro A9 c9 w9 hoC hb9 hle9; replace hE := hb9; clear hb9
      refine hK.out _ _ ?_ (fun hHeld => ?_)
      · (try dsimp only); exact HC.out _ hE
      clear hK K
      (try simp only [Act.put, List.setIfInBounds_toArray, List.set_cons_zero, List.set_cons_succ])
      refine wpAnyU_takeW (i := 7) (oi := { dst := some 40, op := _, type := _, pos := _, after := _, guard := _ }) (v := ?_) (by kernel_rfl) rfl (by kernel_rfl) (by kernel_rfl) (by kernel_rfl) (fun _ _ _ h => h) (Or.inl ⟨by rfl, ?_⟩) (by assumption) ?_
      rotate_left
      · (intro w hSw; (try dsimp only at hSw); go_simp; (try with_reducible rfl))
      (try simp only [Act.put, List.setIfInBounds_toArray, List.set_cons_zero, List.set_cons_succ])
      refine wpAnyU_ready (rs := [8]) (by kernel_rfl) (by simp) ?_
      refine AllReadyU.stop (o := { dst := none, op := _, type := _, pos := _, after := _, guard := _ }) rfl (by kernel_rfl) (fun K hK => ?_) AllReadyU.nil
      have hcz := (HBa.out.ext hE).cell 2; have hfz := (HBa.out.ext hE).frozen 2
      go_simp
      skip
      try go_wp2_with fail
      refine hK.out _ _ ?_ (fun hHeld => ?_)
      · (try dsimp only); (try trivial)
      clear hK K
      (try simp only [Act.put, List.setIfInBounds_toArray, List.set_cons_zero, List.set_cons_succ])
      refine wpAnyH_done (by kernel_rfl) ?_ _
      have hYb := (HBa.out.ext hE).set_ 2 (.slice A9 (nr + 1) c9)
      have hX := (ExtB.refl b w9).set_ 2 (.slice A9 (nr + 1) c9)
      rw [← fldCells_app] at hoC
      have hfar := own_far hoC
      have hRn := Rd.growB (Rd.of_own hoC) hX (fun a ha => by have := hfar a ha; omega)
      have hEF := (HEa.out.trans hE).growB hX Hwb.out
      have Hcle := Lib.hid hle9
      clear hX hfar hoC
      generalize w9.setCell ⟨b, 2, none⟩ (.slice A9 (nr + 1) c9) = wF at *
      have y0 : wF.cell? ⟨b, 0, none⟩ = some (.string me) := hYb.cell 0
      have y1 : wF.cell? ⟨b, 1, none⟩ = some (.slice Aq nq cq) := hYb.cell 1
      have y2 : wF.cell? ⟨b, 2, none⟩ = some (.slice A9 (nr + 1) c9) := hYb.cell 2
      have y3 : wF.cell? ⟨b, 3, none⟩ = some (.int .i64 st) := hYb.cell 3
      have hFz := Hfz.out
      have hs1 : sumF [(fa, fv)] = fa.size + fv.size := by simp [sumF]
      have HOf := Lib.hid (law15_of me Aq nq cq rq A9 (nr + 1) c9 (rp ++ [(fa, fv)]) st wF (HQ0.out.ext hEF) hRn (by omega) (by omega) HZ.out.1 (bsz_add HZ.out.2 (by omega) (by omega)) (HG.out.1.ext hEF) (by rw [sumF_app15, hs1]; omega) (HG.out.2.ext hEF))
      have Hr3 := Hrs.out (isG me)
      generalize rsS (isG me) rq st (rp ++ [(fa, fv)]) = N at *
      obtain ⟨r1, r2, r3⟩ := Hr3
      have q1 : (N == 0) = false := by simpa using r1
      have q2 : (N == 8) = false := by simpa using r2
      have q3 : (N == 7) = false := by simpa using r3
      go_wp2_with fail
      refine HOf.out.mono ?_; rintro e w10 ⟨rfl, hb10⟩
      go_wp2_with fail
      go_ret
      exact ⟨ret_b (by simp [r1, r2, r3]), hEF.trans hb10⟩
  · have hr5 := rd_one15 (e := 28) (a := fa) (b := fv) hE; replace hE := hE.alloc (.cells #[.string fa, .string fv] 28)
    go_simp
    skip
    try go_wp2_with fail
    refine hK.out _ _ ?_ (fun hHeld => ?_)
    · (try dsimp only); exact HC.out _ hE
    clear hK K
    (try simp only [Act.put, List.setIfInBounds_toArray, List.set_cons_zero, List.set_cons_succ])
    refine wpAnyU_ready (rs := [0]) (by kernel_rfl) (by simp) ?_
    refine AllReadyU.cons (o := { dst := some 33, op := _, type := _, pos := _, after := _, guard := _ }) rfl (fun K hK => ?_) AllReadyU.nil
    have hoA := own_made15 (e := 28) hE; rw [World.size_alloc] at hoA; replace hr5 := hr5.ext ((Ext.refl _).alloc (.cells #[] 28)); replace hE := hE.alloc (.cells #[] 28)
    go_simp
    skip
    try go_wp2_with fail
    refine hK.out _ _ ?_ (fun hHeld => ?_)
    · (try dsimp only); exact HC.out _ hE
    clear hK K
    (try simp only [Act.put, List.setIfInBounds_toArray, List.set_cons_zero, List.set_cons_succ])
    refine wpAnyU_ready (rs := [3]) (by kernel_rfl) (by simp) ?_
    refine AllReadyU.cons (o := { dst := some 36, op := _, type := _, pos := _, after := _, guard := _ }) rfl (fun K hK => ?_) AllReadyU.nil
    refine step_appG _ rfl (.tmp 33) (.tmp 35) 22 rfl W4 28 _ 2 32 Tryd.underlying22 infoRfd rfl (by decide) _ _ _ rfl hoA Ar nr cr (fldCells rp) rfl (HFr.out.ext hE) (fldCells_one _) hE (by omega) (by decide) ?_; intro A6 c6 w6 hoB hb6 hle6 hg6; rw [Nat.zero_add] at hoB hle6 ⊢; rw [List.nil_append] at hoB; replace hr5 := Rd.growB hr5 hg6 (fun a ha => by cases ha; simp [World.size_alloc]); replace hE := hb6; clear hb6 hg6
    refine hK.out _ _ ?_ (fun hHeld => ?_)
    · (try dsimp only); exact HC.out _ hE
    clear hK K
    (try simp only [Act.put, List.setIfInBounds_toArray, List.set_cons_zero, List.set_cons_succ])
    refine wpAnyU_ready (rs := [6]) (by kernel_rfl) (by simp) ?_
    refine AllReadyU.cons (o := { dst := some 39, op := _, type := _, pos := _, after := _, guard := _ }) rfl (fun K hK => ?_) AllReadyU.nil
    refine step_app _ rfl (.tmp 36) (.tmp 38) 22 rfl W4 28 _ 2 32 Tryd.underlying22 infoRfd rfl (by decide) _ _ _ rfl hoB _ 1 1 (fldCells [(fa, fv)]) rfl hr5 (fldCells_one _) hE (by omega) (by decide) ?_; intro A9 c9 w9 hoC hb9 hle9; replace hE := hb9; clear hb9
    refine hK.out _ _ ?_ (fun hHeld => ?_)
    · (try dsimp only); exact HC.out _ hE
    clear hK K
    (try simp only [Act.put, List.setIfInBounds_toArray, List.set_cons_zero, List.set_cons_succ])
    refine wpAnyU_takeW (i := 7) (oi := { dst := some 40, op := _, type := _, pos := _, after := _, guard := _ }) (v := ?_) (by kernel_rfl) rfl (by kernel_rfl) (by kernel_rfl) (by kernel_rfl) (fun _ _ _ h => h) (Or.inl ⟨by rfl, ?_⟩) (by assumption) ?_
    rotate_left
    · (intro w hSw; (try dsimp only at hSw); go_simp; (try with_reducible rfl))
    (try simp only [Act.put, List.setIfInBounds_toArray, List.set_cons_zero, List.set_cons_succ])
    refine wpAnyU_ready (rs := [8]) (by kernel_rfl) (by simp) ?_
    refine AllReadyU.stop (o := { dst := none, op := _, type := _, pos := _, after := _, guard := _ }) rfl (by kernel_rfl) (fun K hK => ?_) AllReadyU.nil
    have hcz := (HBa.out.ext hE).cell 2; have hfz := (HBa.out.ext hE).frozen 2
    go_simp
    skip
    try go_wp2_with fail
    refine hK.out _ _ ?_ (fun hHeld => ?_)
    · (try dsimp only); (try trivial)
    clear hK K
    (try simp only [Act.put, List.setIfInBounds_toArray, List.set_cons_zero, List.set_cons_succ])
    refine wpAnyH_done (by kernel_rfl) ?_ _
    have hYb := (HBa.out.ext hE).set_ 2 (.slice A9 (nr + 1) c9)
    have hX := (ExtB.refl b w9).set_ 2 (.slice A9 (nr + 1) c9)
    rw [← fldCells_app] at hoC
    have hfar := own_far hoC
    have hRn := Rd.growB (Rd.of_own hoC) hX (fun a ha => by have := hfar a ha; omega)
    have hEF := (HEa.out.trans hE).growB hX Hwb.out
    have Hcle := Lib.hid hle9
    clear hX hfar hoC
    generalize w9.setCell ⟨b, 2, none⟩ (.slice A9 (nr + 1) c9) = wF at *
    have y0 : wF.cell? ⟨b, 0, none⟩ = some (.string me) := hYb.cell 0
    have y1 : wF.cell? ⟨b, 1, none⟩ = some (.slice Aq nq cq) := hYb.cell 1
    have y2 : wF.cell? ⟨b, 2, none⟩ = some (.slice A9 (nr + 1) c9) := hYb.cell 2
    have y3 : wF.cell? ⟨b, 3, none⟩ = some (.int .i64 st) := hYb.cell 3
    have hFz := Hfz.out
    have hs1 : sumF [(fa, fv)] = fa.size + fv.size := by simp [sumF]
    have HOf := Lib.hid (law15_of me Aq nq cq rq A9 (nr + 1) c9 (rp ++ [(fa, fv)]) st wF (HQ0.out.ext hEF) hRn (by omega) (by omega) HZ.out.1 (bsz_add HZ.out.2 (by omega) (by omega)) (HG.out.1.ext hEF) (by rw [sumF_app15, hs1]; omega) (HG.out.2.ext hEF))
    have Hr3 := Hrs.out (isG me)
    generalize rsS (isG me) rq st (rp ++ [(fa, fv)]) = N at *
    obtain ⟨r1, r2, r3⟩ := Hr3
    have q1 : (N == 0) = false := by simpa using r1
    have q2 : (N == 8) = false := by simpa using r2
    have q3 : (N == 7) = false := by simpa using r3
    go_wp2_with fail
    refine HOf.out.mono ?_; rintro e w10 ⟨rfl, hb10⟩
    go_wp2_with fail
    go_ret
    exact ⟨ret_b (by simp [r1, r2, r3]), hEF.trans hb10⟩
end Go.Proofs.YtphgaommokgfcaaDoor

namespace Go.Proofs.YtphgaommokgfcaaDoor
open Go.ChangeShapes Go.WideShapes Go.Deep Go.RowKit

section
variable {H : Type} {enc : TypeId × Value → H} {P : Program} {w : World} {base : Nat} {spare : Nat → Bool} {held : Bool}
/-- A slice of pairs of strings, opened, with its bulk. -/
theorem open_fldsU {t e S : TypeId} {A : Option Addr} {n c : Nat} {d : DataW H} {p : List MemPlace} (ht : P.underlying t = some (.slice e)) (he : TwoStr P e S)
    (h : DataW.Trod enc P w base spare held t (.slice A n c) d p) :
    ∃ L : List Fd, RdF w A n L ∧ n ≤ maxLen ∧ n ≤ c ∧ 3 * L.length + sumF L + 1 ≤ Rows.uptoBulk d := by
  obtain ⟨fuel, hf⟩ := h
  have hf' : DataW.trod enc P w base spare held fuel t [.slice A n c] = some (d, p) := by simpa [Value.cells] using hf
  rcases open_slice ht hf' with ⟨hcs, hx⟩ | ⟨a, len, cap, m, k, D, Pl, hcs, hb, hl, hm, hmm, hx, hi⟩
  · simp only [List.cons.injEq, Value.slice.injEq, and_true] at hcs
    obtain ⟨rfl, rfl, rfl⟩ := hcs
    exact ⟨[], Rd.none_ _ _ _, by simp [maxLen], Nat.le_refl _, by obtain rfl : d = .nil := congrArg Prod.fst hx; simp [sumF, Rows.uptoBulk]⟩
  · simp only [List.cons.injEq, Value.slice.injEq, and_true] at hcs
    obtain ⟨rfl, rfl, rfl⟩ := hcs
    obtain ⟨f0, f1, hu, t0, t1, o0, o1, hS, hc, hce⟩ := id he
    rw [hce] at hi
    have hnm : n ≤ m := by rw [hmm]; split <;> omega
    obtain ⟨F, hF⟩ := choose_lt (α := Fd) (n := m) (p := fun i f => w.cell? (a.add (i * 2)) = some (.string f.1) ∧ w.cell? (a.add (i * 2 + 1)) = some (.string f.2) ∧ D i = .agg [.lit (.string f.1.data.toList), .lit (.string f.2.data.toList)]) (fun i him => by
      obtain ⟨cs', h1, h2⟩ := hi i him
      obtain ⟨_, _, hat⟩ := World.cells?_some h1
      obtain ⟨u, v, rfl, hd, _, _⟩ := trod_twoStr he h2
      have c0 := hat 0 (by omega)
      have c1 := hat 1 (by omega)
      rw [Go.Deep.add_add] at c0 c1
      exact ⟨(u, v), by simpa using c0, by simpa using c1, hd⟩)
    have hlen : ((List.range n).map F).length = n := by simp
    refine ⟨(List.range n).map F, ⟨by rw [fldCells_len, hlen], fun hpos => ?_⟩, by omega, hl, ?_⟩
    · have hn0 : 0 < n := by rw [fldCells_len, hlen] at hpos; omega
      obtain ⟨b, o, sp⟩ := a
      have hsp : sp = none := by simpa [Addr.add] using World.cell?_spot (hF 0 (by omega)).1
      subst hsp
      refine ⟨b, o, rfl, fun j u hj => ?_⟩
      have hjl : j < n * 2 := by
        have := (List.getElem?_eq_some_iff.1 hj).1
        rw [fldCells_len, hlen] at this; exact this
      have hlt : j / 2 < ((List.range n).map F).length := by rw [hlen]; omega
      have hcells := hF (j / 2) (by omega)
      rw [add_plain, add_plain] at hcells
      have hFe : ((List.range n).map F)[j / 2] = F (j / 2) := by simp
      rcases Nat.mod_two_eq_zero_or_one j with h0 | h1
      · have e : j = j / 2 * 2 := by omega
        rw [e, fldCells_at0 _ _ hlt, hFe] at hj
        rw [e, ← hj]
        have e2 : j / 2 * 2 / 2 = j / 2 := by omega
        exact hcells.1
      · have e : j = j / 2 * 2 + 1 := by omega
        rw [e, fldCells_at1 _ _ hlt, hFe] at hj
        rw [e, ← hj]
        exact hcells.2.1
    · have hx1 : d = DataW.slice ((List.range n).map D) ((List.range (m - n)).map fun j => D (n + j)) := congrArg Prod.fst hx
      have hm2 : (List.range n).map D = ((List.range n).map F).map fun f => DataW.agg [.lit (.string f.1.data.toList), .lit (.string f.2.data.toList)] := by
        rw [List.map_map]
        exact List.map_congr_left fun i hi => (hF i (by have := List.mem_range.1 hi; omega)).2.2
      rw [hx1, hm2]
      simp only [Rows.uptoBulk]
      have := bulk_flds (H := H) ((List.range n).map F)
      omega
end
end Go.Proofs.YtphgaommokgfcaaDoor

namespace Go.Proofs.YtphgaommokgfcaaDoor
open Go.ChangeShapes Go.WideShapes Go.RowKit Go.Deep Go.Joins
section
variable {H : Type} {enc : TypeId × Value → H} {w : World} {base : Nat} {spare : Nat → Bool} {held : Bool}
theorem c_slice {P : Program} {t e : TypeId} {fuel : Nat} {cs : List Value} {x : DataW H × List MemPlace} (ht : P.underlying t = some (.slice e)) (h : DataW.trod enc P w base spare held fuel t cs = some x) :
    ∃ A n c, cs = [.slice A n c] ∧ DataW.Trod enc P w base spare held t (.slice A n c) x.1 x.2 := by
  rcases open_slice ht h with ⟨rfl, hx⟩ | ⟨a, len, cap, m, k, D, Pl, rfl, hb, hl, hm, hmm, hx, hi⟩
  · exact ⟨_, _, _, rfl, fuel, by simpa [Value.cells] using h⟩
  · exact ⟨_, _, _, rfl, fuel, by simpa [Value.cells] using h⟩
theorem open_agg {P : Program} {r : Reach} {b0 : Nat} {t : TypeId} {fs : Array Field} {v : Value} {d : DataW H} {p : List MemPlace} (hs : P.underlying t = some (.struct fs)) (hv : Value.okWide P w r b0 t v) (h : DataW.Trod enc P w base spare held t v d p) :
    ∃ (cs : Array Value) (fuel : Nat), v = .agg cs ∧ DataW.trod enc P w base spare held fuel t cs.toList = some (d, p) := by
  obtain ⟨cs, rfl, hsz⟩ := okWide_struct hs hv
  obtain ⟨fuel, hf⟩ := h
  exact ⟨cs, fuel, rfl, by simpa [Value.cells] using hf⟩
set_option maxRecDepth 100000 in
theorem c_Case {fuel : Nat} {cs : List Value} {x : DataW H × List MemPlace} (h : DataW.trod enc Tryd.prog w base spare held fuel 24 cs = some x) :
    ∃ (x_0 : ByteArray) (x_1A : Option Addr) (x_1n : Nat) (x_1c : Nat) (x_1d : DataW H) (x_1p : List MemPlace) (x_2A : Option Addr) (x_2n : Nat) (x_2c : Nat) (x_2d : DataW H) (x_2p : List MemPlace) (x_3 : Int), cs = [.string x_0, .slice x_1A x_1n x_1c, .slice x_2A x_2n x_2c, .int .i64 x_3] ∧ x.1 = .agg [.lit (.string x_0.data.toList), x_1d, x_2d, .lit (.int .i64 x_3)] ∧ (x_0.size ≤ maxLen ∧ DataW.Trod enc Tryd.prog w base spare held 22 (.slice x_1A x_1n x_1c) x_1d x_1p ∧ DataW.Trod enc Tryd.prog w base spare held 22 (.slice x_2A x_2n x_2c) x_2d x_2p ∧ (Lit.int .i64 x_3).wf = true) := by
  obtain ⟨xs, n, _, rfl, hl, hlen, hf⟩ := DataW.trod_struct Tryd.underlying24 h
  rw [show Tryd.prog.cellsOf 24 = 4 from by kernel_rfl] at hl
  match cs, hl with
  | [c0, c1, c2, c3], _ =>
  have hlen : xs.length = 4 := hlen
  match xs, hlen with
  | [y0, y1, y2, y3], _ =>
    have g0 : DataW.trod enc Tryd.prog w base spare held n 9 (([c0, c1, c2, c3].drop 0).take (Tryd.prog.cellsOf 9)) = [y0, y1, y2, y3][0]? := hf 0 _ rfl
    have g1 : DataW.trod enc Tryd.prog w base spare held n 22 (([c0, c1, c2, c3].drop 1).take (Tryd.prog.cellsOf 22)) = [y0, y1, y2, y3][1]? := hf 1 _ rfl
    have g2 : DataW.trod enc Tryd.prog w base spare held n 22 (([c0, c1, c2, c3].drop 2).take (Tryd.prog.cellsOf 22)) = [y0, y1, y2, y3][2]? := hf 2 _ rfl
    have g3 : DataW.trod enc Tryd.prog w base spare held n 3 (([c0, c1, c2, c3].drop 3).take (Tryd.prog.cellsOf 3)) = [y0, y1, y2, y3][3]? := hf 3 _ rfl
    rw [show Tryd.prog.cellsOf 9 = 1 from by kernel_rfl] at g0
    simp only [List.drop_succ_cons, List.drop_zero, List.take_succ_cons, List.take_zero, List.getElem?_cons_succ, List.getElem?_cons_zero] at g0
    obtain ⟨x_0, e0, d0, f0_0⟩ := DataW.trod_string Tryd.underlying9 g0
    simp only [List.cons.injEq, and_true] at e0
    subst e0
    rw [show Tryd.prog.cellsOf 22 = 1 from by kernel_rfl] at g1
    simp only [List.drop_succ_cons, List.drop_zero, List.take_succ_cons, List.take_zero, List.getElem?_cons_succ, List.getElem?_cons_zero] at g1
    obtain ⟨x_1A, x_1n, x_1c, e1, f1_0⟩ := c_slice Tryd.underlying22 g1
    simp only [List.cons.injEq, and_true] at e1
    subst e1
    rw [show Tryd.prog.cellsOf 22 = 1 from by kernel_rfl] at g2
    simp only [List.drop_succ_cons, List.drop_zero, List.take_succ_cons, List.take_zero, List.getElem?_cons_succ, List.getElem?_cons_zero] at g2
    obtain ⟨x_2A, x_2n, x_2c, e2, f2_0⟩ := c_slice Tryd.underlying22 g2
    simp only [List.cons.injEq, and_true] at e2
    subst e2
    rw [show Tryd.prog.cellsOf 3 = 1 from by kernel_rfl] at g3
    simp only [List.drop_succ_cons, List.drop_zero, List.take_succ_cons, List.take_zero, List.getElem?_cons_succ, List.getElem?_cons_zero] at g3
    obtain ⟨x_3, e3, d3, f3_0⟩ := DataW.trod_int Tryd.underlying3 g3
    simp only [List.cons.injEq, and_true] at e3
    subst e3
    refine ⟨x_0, x_1A, x_1n, x_1c, _, _, x_2A, x_2n, x_2c, _, _, x_3, rfl, ?_, f0_0, f1_0, f2_0, f3_0⟩
    simp only [List.map_cons, List.map_nil, show y0.1 = _ from congrArg Prod.fst d0, show y3.1 = _ from congrArg Prod.fst d3]
set_option maxRecDepth 100000 in
theorem open_Case {r : Reach} {b0 : Nat} {v : Value} {d : DataW H} {p : List MemPlace} (hv : Value.okWide Tryd.prog w r b0 24 v) (h : DataW.Trod enc Tryd.prog w base spare held 24 v d p) :
    ∃ (x_0 : ByteArray) (x_1A : Option Addr) (x_1n : Nat) (x_1c : Nat) (x_1d : DataW H) (x_1p : List MemPlace) (x_2A : Option Addr) (x_2n : Nat) (x_2c : Nat) (x_2d : DataW H) (x_2p : List MemPlace) (x_3 : Int), v = .agg #[.string x_0, .slice x_1A x_1n x_1c, .slice x_2A x_2n x_2c, .int .i64 x_3] ∧ d = .agg [.lit (.string x_0.data.toList), x_1d, x_2d, .lit (.int .i64 x_3)] ∧ (x_0.size ≤ maxLen ∧ DataW.Trod enc Tryd.prog w base spare held 22 (.slice x_1A x_1n x_1c) x_1d x_1p ∧ DataW.Trod enc Tryd.prog w base spare held 22 (.slice x_2A x_2n x_2c) x_2d x_2p ∧ (Lit.int .i64 x_3).wf = true) := by
  obtain ⟨⟨cs⟩, fuel, rfl, hf⟩ := open_agg Tryd.underlying24 hv h
  obtain ⟨x_0, x_1A, x_1n, x_1c, x_1d, x_1p, x_2A, x_2n, x_2c, x_2d, x_2p, x_3, hcs, hd, hfa⟩ := c_Case hf
  exact ⟨x_0, x_1A, x_1n, x_1c, x_1d, x_1p, x_2A, x_2n, x_2c, x_2d, x_2p, x_3, by rw [show cs = _ from hcs], hd, hfa⟩
set_option maxRecDepth 100000 in
theorem open_arr2b {v : Value} {d : DataW H} {p : List MemPlace} {r : Reach} {b0 : Nat}
    (hv : Value.okWide Tryd.prog w r b0 52 v) (h : DataW.Trod enc Tryd.prog w base spare held 52 v d p) :
    ∃ a b : Bool, v = .agg #[.bool a, .bool b] := by
  simp only [Value.okWide, Tryd.underlying52] at hv
  obtain ⟨cs, rfl, hsz, _⟩ := hv
  rw [show Tryd.prog.cellsOf 52 = 2 from by kernel_rfl] at hsz
  obtain ⟨fuel, hf⟩ := h
  obtain ⟨xs, m, _, hx, _, hlen, hg⟩ := DataW.trod_array Tryd.underlying52 hf
  obtain ⟨l⟩ := cs
  match l, hsz with
  | [c0, c1], _ =>
    match xs, hlen with
    | [y0, y1], _ =>
      have g0 := hg 0 (by omega)
      have g1 := hg 1 (by omega)
      rw [show Tryd.prog.cellsOf 4 = 1 from by kernel_rfl] at g0 g1
      simp only [Value.cells, Nat.zero_mul, List.drop_zero, List.take_succ_cons, List.take_zero, List.getElem?_cons_zero] at g0
      simp only [Value.cells, Nat.one_mul, List.drop_succ_cons, List.drop_zero, List.take_succ_cons, List.take_zero, List.getElem?_cons_succ, List.getElem?_cons_zero] at g1
      obtain ⟨a, e1, _⟩ := DataW.trod_bool Tryd.underlying4 g0
      obtain ⟨b, e2, _⟩ := DataW.trod_bool Tryd.underlying4 g1
      simp only [List.cons.injEq, and_true] at e1 e2
      subst e1; subst e2
      exact ⟨a, b, rfl⟩
end
end Go.Proofs.YtphgaommokgfcaaDoor
