/- The walks of field.All and quaysideref01.List once more: the rows that they return are the calls' own. The walks of None, directive.Parse and quaysideref11.Parse. The calendar, in plain words: days, months, years. No program in sight, no condition. The walks of the package httpdate's small functions: leap, month, before, Day, Date, Weekday, two, number. The walks of the package httpdate: number, Day, Date. The walk of httpdate.Format. The walk of httpdate.Parse. The text of a moment is read as that moment; what is read lies within its bounds. No program in sight. Plain laws on lists of fields: Same is symmetric and reflexive; neighbors with different names may change places. No program in sight. Plain laws: what Set, Add and Remove do to the values of a name and of the others. No program in sight. What the functions of lifetime and quaysideref14 compute, in plain words; their bounds. No program in sight. The walks of validator.plain, quaysideref10.Right, ReadTag, Read. The walk of quaysidebase.Num: the number of an error. The walks of WriteTag, Write, the comparisons of tags, tag, same, quaysidebase.Is. Plain facts on rows of a call's own: a literal slice; an own row beside a slice that is read; append with where the new row lies. No condition. The walks of quaysidelaw02.small, quaysidelaw02.Fields, quaysidebase.Texts. The contract of strings.Join on a slice of strings that is read. The walks of field.Get and quaysideref02.Get. The walks of field.Size, quaysidelaw02.awake; FieldGets returns true. The walks of field.Remove, quaysideref02.Remove, slices.Clone, slices.Clip, field.Add, quaysideref02.Add. The walks of syntax.tchar, syntax.Token, quaysideref01.tchar, quaysideref01.Token. The walks of field.Name, field.Value, quaysideref02.Name, quaysideref02.Value, quaysidebase.Num, quaysidelaw02.FieldNames. The walk of quaysidelaw02.Are; FieldSets and FieldKeeps: the walks. The walks of field.Strip, quaysideref02.Strip, quaysidelaw02.Ref; FieldStrips returns true. field.Get in the words of an option. -/
import Derived.Test.YtphgaommokgfcaaGreatDoorJ2
import Derived.Deep.RegionHeld3
import Derived.IntWalk
import Derived.Deep.DeepCutAuto
import Derived.Test.YtphgaommokgfcaaGreatDoorRows
import Derived.Maps.AppendAt
import Derived.Deep.QuietTactic
import Derived.BigQuiet
import Derived.Test.YtphgaommokgfcaaGreatDoorShelf
import Derived.Lib.LazyBuf
import Derived.Lib.IndexAny
set_option linter.unusedSimpArgs false
set_option linter.unusedVariables false
namespace Go.Proofs.YtphgaommokgfcaaGreatDoor
open Go.RowKit

set_option maxHeartbeats 1000000 in
theorem field_AllO (A : Option Addr) (n c : Nat) (fs : List Fd) (name : ByteArray) (w : World) (hf : RdF w A n fs)
    (hn : n ≤ 1073741824) (hs : name.size ≤ 9223372036854775807) (hsz : ∀ f ∈ fs, f.1.size ≤ 9223372036854775807) :
    Calls Tryz.prog 26 #[.slice A n c, .string name] w fun e w' => ∃ A' n' c', e = .returned (.slice A' n' c') ∧ RdS w' A' n' (allS fs name) ∧ n' ≤ c' ∧ Ext w w' ∧ w'.ownsRow w.heap.size 9 1 (.slice A' n' c') n' (strCells (allS fs name)) := by
  go_enter Tryz.func26, Tryz.ntmps26
  go_wp2_with (go_at_call 45; refine (field_lower _ _ (by assumption)).mono ?_; rintro e w1 ⟨rfl, hb1⟩)
  go_loopw [5, 12] (fun v i wr => ∃ k m A' c', k ≤ n ∧ i = .int .i64 (k : Nat) ∧ v = .slice A' m c' ∧ wr.ownsRow w1.heap.size 9 1 (.slice A' m c') m (strCells (allS (fs.take k) name)) ∧ m ≤ c' ∧ Ext w1 wr) (fun _ i _ => n - (intOf i).toNat)
  case atStart => exact ⟨0, 0, none, 0, Nat.zero_le _, rfl, rfl, World.ownsRow_nil _ _ _ _, Nat.le_refl _, Ext.refl _⟩
  case round =>
    obtain ⟨k, m, A', c', hk, rfl, rfl, hown, hmc, hbr⟩ := hrel
    by_cases hlt : k < n
    · have hl := hf.lenF
      have hlt' : k < fs.length := by omega
      obtain ⟨b, o, rfl, hc0, hc1⟩ := (hf.ext (hb1.trans hbr)).atF hlt'
      have hbd := hsz fs[k] (List.getElem_mem hlt')
      have hm1 := hown.1
      simp only [List.length_map, Nat.mul_one] at hm1
      have hmk := allS_len fs name k
      rw [hm1] at hmk
      have Hl := Lib.hid hl; clear hl
      have Hm := Lib.hid hm1; clear hm1
      by_cases hy : isN name fs[k] = true
      · have Hst := Lib.hid (allS_yes hlt' hy)
        unfold isN at hy
        generalize fs[k].1 = nm at *
        generalize fs[k].2 = vl at *
        go_wp2_with (first
          | (go_at_call 45; refine (field_lower _ _ (by assumption)).mono ?_; rintro e w2 ⟨rfl, hb2⟩; have hc2 := hb2.cells; have hz2 := hb2.size)
          | (at_builtin; refine wpList_app _ rfl (.tmp 21) (.tmp 24) 54 rfl w1 9 _ 1 16 Tryz.underlying54 infoStr rfl (by decide) _ _ _ rfl ((own_ext (hown.alloc _) hb2).alloc _) _ 1 1 [.string vl] rfl (Rd.one _ _ _ (by simp)) (strCells_one [vl]) (((hbr.alloc _).trans hb2).alloc _) (by omega) (by decide) ?_; intro A2 c2 w3 hown3 hb3 hle3))
        go_roundw
        case rel => exact ⟨k + 1, m + 1, A2, c2, by omega, by go_num, rfl, by rw [Hst.out]; simpa using hown3, hle3, hb3⟩
        case measure => simp [intOf]; omega
      · have hy : isN name fs[k] = false := by simpa using hy
        have Hst := Lib.hid (allS_no hlt' hy)
        unfold isN at hy
        generalize fs[k].1 = nm at *
        generalize fs[k].2 = vl at *
        go_wp2_with (first
          | (go_at_call 45; refine (field_lower _ _ (by assumption)).mono ?_; rintro e w2 ⟨rfl, hb2⟩; have hc2 := hb2.cells; have hz2 := hb2.size))
        go_roundw
        case rel => exact ⟨k + 1, m, A', c', by omega, by go_num, rfl, by rw [Hst.out]; exact own_ext (hown.alloc _) hb2, hmc, (hbr.alloc _).trans hb2⟩
        case measure => simp [intOf]; omega
    · have hk' : k = n := by omega
      have hl := hf.lenF
      go_wp2
      go_ret
      rw [List.take_of_length_le (by omega)] at hown
      exact ⟨_, _, _, rfl, Rd.of_own hown, hmc, hb1.trans hbr, own_base hown hb1.size⟩
set_option maxHeartbeats 1000000 in
theorem ref_ListO (s : ByteArray) (w : World) (hs : s.size ≤ 1048576) :
    Calls Tryz.prog 43 #[.string s] w fun e w' => ∃ A n c, e = .returned (.tuple #[.slice A n c, .bool (partsS s 44).isSome]) ∧
      RdS w' A n (itemsS s) ∧ n ≤ c ∧ Ext w w' ∧ w'.ownsRow w.heap.size 9 1 (.slice A n c) n (strCells (itemsS s)) := by
  go_enter Tryz.func43, Tryz.ntmps43
  go_wp2_with fail
  refine (ref_Parts s 44 _ hs).mono ?_; rintro e w1 ⟨A1, n1, c1, rfl, hr1, hc1, hb1⟩
  have hit := (parts_all (s := s) (sep := 44)).2
  have hl1 := hr1.lenS
  have Hi := Lib.hid (show itemsS s = ((partsS s 44).getD []).filter full from rfl)
  generalize (partsS s 44).getD [] = P at *
  generalize hok : (partsS s 44).isSome = OK at *
  have Hok := Lib.hid hok; clear hok
  have Hl := Lib.hid hl1; clear hl1
  have hn1 : n1 ≤ 1048577 := by have := Hl.out; omega
  clear hit
  go_wp2_with fail
  go_loopw [6, 15] (fun v i wr => ∃ k m A' c', k ≤ n1 ∧ i = .int .i64 (k : Nat) ∧ v = .slice A' m c' ∧ wr.ownsRow w1.heap.size 9 1 (.slice A' m c') m (strCells ((P.take k).filter full)) ∧ m ≤ c' ∧ m ≤ k ∧ Ext w1 wr) (fun _ i _ => n1 - (intOf i).toNat)
  case atStart => exact ⟨0, 0, none, 0, Nat.zero_le _, rfl, rfl, World.ownsRow_nil _ _ _ _, Nat.le_refl _, Nat.le_refl _, Ext.refl _⟩
  case round =>
    obtain ⟨k, m, A', c', hk, rfl, rfl, hown, hmc, hmk, hbr⟩ := hrel
    by_cases hlt : k < n1
    · have hlt' : k < P.length := by have := Hl.out; omega
      obtain ⟨b, o, rfl, hc0⟩ := (hr1.ext hbr).atS hlt'
      have Hy := Lib.hid (ft_yes full hlt')
      have Hn := Lib.hid (ft_no full hlt')
      generalize P[k] = x at *
      by_cases hx : x = ⟨#[]⟩
      · have hq := isE_yes hx
        have Hf := Lib.hid (full_no hx); clear hx
        go_wp2_with fail
        go_roundw
        case rel => exact ⟨k + 1, m, A', c', by omega, by go_num, rfl, by rw [Hn.out Hf.out]; exact hown, hmc, by omega, hbr⟩
        case measure => simp [intOf]; omega
      · have hq := isE_no hx
        have Hf := Lib.hid (full_yes hx); clear hx
        go_wp2_with (first
          | (at_builtin; refine wpList_app _ rfl (.tmp 23) (.tmp 28) 54 rfl w1 9 _ 1 16 Tryz.underlying54 infoStr rfl (by decide) _ _ _ rfl (hown.alloc _) _ 1 1 [.string x] rfl (Rd.one _ _ _ (by simp)) (strCells_one [x]) (hbr.alloc _) (by omega) (by decide) ?_; intro A2 c2 w3 hown3 hb3 hle3))
        go_roundw
        case rel => exact ⟨k + 1, m + 1, A2, c2, by omega, by go_num, rfl, by rw [Hy.out Hf.out]; simpa using hown3, hle3, by omega, hb3⟩
        case measure => simp [intOf]; omega
    · obtain rfl : k = n1 := by omega
      have he : P.take k = P := List.take_of_length_le (by have := Hl.out; omega)
      rw [he] at hown
      clear he
      go_wp2_with fail
      go_ret2
      exact ⟨_, _, _, by rw [Hok.out]; rfl, by rw [Hi.out]; exact Rd.of_own hown, hmc, hb1.trans hbr, by rw [Hi.out]; exact own_base hown hb1.size⟩

end Go.Proofs.YtphgaommokgfcaaGreatDoor

namespace Go.Proofs.YtphgaommokgfcaaGreatDoor
open Go.RowKit

/-- Directives with one value more; the directives of values. -/
def stepV (d : D) (v : ByteArray) : D := if (partsS v 44).isSome then (itemsS v).foldl stepD d else { d with b0 := true }
def dirS (vs : List ByteArray) : D := vs.foldl stepV noneD
def ccN : ByteArray := ⟨#[99, 97, 99, 104, 101, 45, 99, 111, 110, 116, 114, 111, 108]⟩
theorem dirS_step {vs : List ByteArray} {k : Nat} (h : k < vs.length) : dirS (vs.take (k + 1)) = stepV (dirS (vs.take k)) vs[k] := by
  unfold dirS; rw [take_step vs k h, List.foldl_append]; rfl
theorem fold_step {α β : Type} (f : β → α → β) (z : β) {l : List α} {k : Nat} (h : k < l.length) : (l.take (k + 1)).foldl f z = f ((l.take k).foldl f z) l[k] := by
  rw [take_step l k h, List.foldl_append]; rfl
theorem stepV_no {d : D} {v : ByteArray} (h : partsS v 44 = none) : stepV d v = { d with b0 := true } := by unfold stepV; rw [h]; rfl
theorem stepV_yes {d : D} {v : ByteArray} {P : List ByteArray} (h : partsS v 44 = some P) : stepV d v = (itemsS v).foldl stepD d := by unfold stepV; rw [h]; rfl
theorem own_far {w : World} {base e k n m c : Nat} {A : Option Addr} {xs : List Value} (h : w.ownsRow base e k (.slice A n c) m xs) : ∀ a, A = some a → base ≤ a.block := by
  intro a ha
  rcases h.2 with ⟨hv, _⟩ | ⟨g, cap, cur, hv, hb, _⟩
  · obtain ⟨h1, -, -⟩ := slice_inj hv; rw [ha] at h1; cases h1
  · obtain ⟨h1, -, -⟩ := slice_inj hv; rw [ha] at h1; injection h1 with h1; rw [h1]; exact hb
theorem infoDp : (Tryz.prog.info? 72).map (·.size) = some 12 := by kernel_rfl

set_option maxHeartbeats 1000000 in
set_option maxRecDepth 100000 in
theorem dir_None (w : World) : Calls Tryz.prog 49 #[] w fun e w' => e = .returned (.agg (dArr noneD)) ∧ Ext w w' := by
  go_enter Tryz.func49, Tryz.ntmps49
  go_wp2_with (first
    | (refine wpList_storeB rfl 72 (.tmp 0) (.tmp 1) rfl rfl w.heap.size _ rfl rfl 72 _ (Blk.new w _ _) infoDp rfl (dArr_one noneD) ?_; intro w9 hB9 hx9))
  exact bodyPost_ret (v := .agg (dArr noneD)) (results_cell_row rfl _ _ w.heap.size 72 _ (0, 0) _ rfl hB9 Tryz.underlying72 rfl infoDp) rfl ⟨rfl, ((Ext.refl w).alloc _).growB hx9 (Nat.le_refl _)⟩

set_option maxHeartbeats 1000000 in
set_option maxRecDepth 100000 in
theorem ref_None (w : World) : Calls Tryz.prog 56 #[] w fun e w' => e = .returned (.agg (dArr noneD)) ∧ Ext w w' := by
  go_enter Tryz.func56, Tryz.ntmps56
  go_wp2_with (first
    | (refine wpList_storeB rfl 48 (.tmp 0) (.tmp 1) rfl rfl w.heap.size _ rfl rfl 48 _ (Blk.new w _ _) infoD rfl (dArr_one noneD) ?_; intro w9 hB9 hx9))
  exact bodyPost_ret (v := .agg (dArr noneD)) (results_cell_row rfl _ _ w.heap.size 48 _ (0, 0) _ rfl hB9 Tryz.underlying48 rfl infoD) rfl ⟨rfl, ((Ext.refl w).alloc _).growB hx9 (Nat.le_refl _)⟩

theorem bsz_vals {B : Nat} {fs : List Fd} {name : ByteArray} (h : Bsz B fs) : ∀ v ∈ allS fs name, v.size ≤ B := by
  intro v hv
  obtain ⟨f, hf, rfl⟩ := List.mem_map.1 hv
  exact (h f (List.mem_filter.1 hf).1).2

set_option maxHeartbeats 2000000 in
set_option maxRecDepth 100000 in
theorem dir_Parse (A : Option Addr) (n c : Nat) (fs : List Fd) (w : World) (hf : RdF w A n fs) (hn : n ≤ 1073741824) (hsz : Bsz 1048576 fs) (hg : Gl w) :
    Calls Tryz.prog 33 #[.slice A n c] w fun e w' => e = .returned (.agg (dArr (dirS (allS fs ccN)))) ∧ Ext w w' := by
  go_enter Tryz.func33, Tryz.ntmps33
  have HZ0 := Lib.hid (Blk.new w 72 (dArr zeroD))
  go_wp2_with fail
  refine (dir_None _).mono ?_; rintro e w1 ⟨rfl, hb1⟩
  have hbw1 := ((Ext.refl w).alloc (.cells (dArr zeroD) 72)).trans hb1
  have HZ1 := Lib.hid (HZ0.out.ext hb1)
  have hlt1 := HZ1.out.lt
  go_wp2_with (first
    | (refine wpList_storeB rfl 72 (.tmp 3) (.tmp 10) rfl rfl w1.heap.size _ rfl rfl 72 _ (Blk.new w1 _ _) infoDp rfl (dArr_one noneD) ?_; intro w2 hB2 hx2))
  have hbw2 := (hbw1.alloc (.cells (dArr zeroD) 72)).growB hx2 hbw1.size
  have HZ2 := Lib.hid ((HZ1.out.alloc (.cells (dArr zeroD) 72)).grown hx2 (by simp; omega))
  have hlt2 := hB2.lt
  have HB2 := Lib.hid hB2; clear hB2 hx2 HZ1 HZ0
  refine (field_AllO A n c fs ccN w2 (hf.ext hbw2) hn (by decide) (fun f hff => by have := (hsz f hff).1; omega)).mono ?_; rintro e w3 ⟨A3, n3, c3, rfl, hr3, hc3, hb3, hown3⟩
  have hfar3 := own_far hown3
  have hva := bsz_vals (name := ccN) hsz
  have HZ3 := Lib.hid (HZ2.out.ext hb3)
  have HB3 := Lib.hid (HB2.out.ext hb3)
  have hbw3 := hbw2.trans hb3
  clear hown3 HZ2 HB2
  have hne3 : ∀ a, A3 = some a → a.block ≠ w1.heap.size := fun a ha => by have := hfar3 a ha; omega
  have hn3 : n3 ≤ 1073741824 := by
    have h1 := hr3.lenS
    have h2 := allS_len fs ccN n
    have h3 := hf.lenF
    rw [List.take_of_length_le (by omega)] at h2
    omega
  generalize hV : allS fs ccN = V at *
  have HV := Lib.hid hV; clear hV
  have hl3 := hr3.lenS
  have Hl3 := Lib.hid hl3; clear hl3
  have Hne3 := Lib.hid hne3; clear hne3 hfar3
  go_wp2_with fail
  go_loopw [14] (fun i wr => ∃ k, k ≤ n3 ∧ i = .int .i64 (k : Nat) ∧ Ext w wr ∧ RdS wr A3 n3 V ∧ Blk wr w.heap.size 72 (dArr zeroD) ∧ Blk wr w1.heap.size 72 (dArr (dirS (V.take k)))) (fun i _ => n3 - (intOf i).toNat)
  case atStart => exact ⟨0, Nat.zero_le _, rfl, hbw3, hr3, HZ3.out, HB3.out⟩
  case round =>
    obtain ⟨k, hk, rfl, hbr, hrV, hZr, hBr⟩ := hrel
    have hbs := hbr.size
    have HZr := Lib.hid hZr; have HBr := Lib.hid hBr; clear hZr hBr
    by_cases hlt : k < n3
    · have hlt' : k < V.length := by have := Hl3.out; omega
      obtain ⟨b, o, rfl, hc0⟩ := hrV.atS hlt'
      have hvs := hva V[k] (List.getElem_mem hlt')
      have Hst := Lib.hid (dirS_step hlt')
      generalize V[k] = x at *
      go_wp2_with fail
      refine (syntax_List x _ (by omega)).mono ?_; rintro e w4 ⟨A4, n4, c4, rfl, hr4, hc4, hb4, hown4⟩
      have hbr4 := hbr.trans hb4
      have hrV4 := Rd.ext hrV hb4
      have hlB := HBr.out.lt
      have HZ4 := Lib.hid (HZr.out.ext hb4)
      have HB4 := Lib.hid (HBr.out.ext hb4)
      have Hne4 := Lib.hid (show ∀ a, A4 = some a → a.block ≠ w1.heap.size from fun a ha => by have := own_far hown4 a ha; omega)
      clear hown4 HZr HBr
      cases hp : partsS x 44 with
      | none =>
        have Hno := Lib.hid (Hst.out.trans (stepV_no hp)); clear hp
        rw [show pE none = 2 from rfl, show errV 2 = .iface 66 (.int .i64 2) from rfl]
        have hcl : w4.cell? ⟨w1.heap.size, 0, none⟩ = some (.bool (dirS (V.take k)).b0) := HB4.out.cell 0
        have hfz := HB4.out.frozen 0
        go_wp2_with fail
        go_roundw
        case rel => exact ⟨k + 1, by omega, by go_num, hbr4.setCell (p := ⟨w1.heap.size, 0, none⟩) hbw1.size _, hrV4.growB ((ExtB.refl w1.heap.size w4).set_ 0 _) Hne3.out, HZ4.out.far (by simp; omega) _, by rw [Hno.out]; exact HB4.out.set_ 0 (.bool true)⟩
        case measure => simp [intOf]; omega
      | some P =>
        have Hyes := Lib.hid (Hst.out.trans (stepV_yes hp)); clear hp
        rw [show pE (some P) = 0 from rfl, show errV 0 = .nilIface from rfl]
        have hia := (items_all (s := x)).1
        have hil := (items_all (s := x)).2
        generalize hI : itemsS x = I at *
        clear hI
        have hl4 := hr4.lenS
        have hn4 : n4 ≤ 1048577 := by omega
        have Hl4 := Lib.hid hl4; clear hl4 hil
        go_wp2_with fail
        obtain ⟨wq, hwq⟩ : ∃ wq : World, wq = wr := ⟨_, rfl⟩
        clear hwq
        go_loopw [28] (fun i wi => ∃ j, j ≤ n4 ∧ i = .int .i64 (j : Nat) ∧ Ext w wi ∧ RdS wi (some ⟨b, o, none⟩) n3 V ∧ RdS wi A4 n4 I ∧ Blk wi w.heap.size 72 (dArr zeroD) ∧ Blk wi w1.heap.size 72 (dArr ((I.take j).foldl stepD (dirS (V.take k))))) (fun i _ => n4 - (intOf i).toNat)
        case atStart => exact ⟨0, Nat.zero_le _, rfl, hbr4, hrV4, hr4, HZ4.out, HB4.out⟩
        case round =>
          obtain ⟨j, hj, rfl, hbi, hrVi, hrI, hZi, hBi⟩ := hrel
          have HZi := Lib.hid hZi; have HBi := Lib.hid hBi; clear hZi hBi
          by_cases hjt : j < n4
          · have hjt' : j < I.length := by have := Hl4.out; omega
            obtain ⟨b2, o2, rfl, hd0⟩ := hrI.atS hjt'
            have hys := hia I[j] (List.getElem_mem hjt')
            have Hs2 := Lib.hid (fold_step stepD (dirS (V.take k)) hjt')
            generalize I[j] = y at *
            go_wp2_with fail
            refine (dir_element w1.heap.size _ y _ (by omega) (hg.ext hbi) HBi.out).mono ?_; rintro e w6 ⟨rfl, hB6, hx6⟩
            have hbi6 := hbi.growB hx6 hbw1.size
            have hrV6 := hrVi.growB hx6 Hne3.out
            have hrI6 := hrI.growB hx6 Hne4.out
            have HZ6 := Lib.hid (HZi.out.grown hx6 (by simp; omega))

            go_wp2_with fail
            go_roundw
            case rel => exact ⟨j + 1, by omega, by go_num, hbi6, hrV6, hrI6, HZ6.out, by rw [Hs2.out]; exact hB6⟩
            case measure => simp [intOf]; omega
          · obtain rfl : j = n4 := by omega
            have he : I.take j = I := List.take_of_length_le (by have := Hl4.out; omega)
            rw [he] at HBi
            clear he
            go_wp2_with fail
            go_roundw
            case rel => exact ⟨k + 1, by omega, by go_num, hbi, hrVi, HZi.out, by rw [Hyes.out]; exact HBi.out⟩
            case measure => simp [intOf]; omega
    · obtain rfl : k = n3 := by omega
      have he : V.take k = V := List.take_of_length_le (by have := Hl3.out; omega)
      rw [he] at HBr
      clear he
      go_wp2_with (first
        | (refine wpList_loadB rfl 72 (.tmp 3) rfl w1.heap.size rfl 72 _ HBr.out _ Tryz.underlying72 infoDp ?_)
        | (refine wpList_storeB rfl 72 (.tmp 2) (.tmp 36) rfl rfl w.heap.size _ rfl rfl 72 _ HZr.out infoDp rfl (dArr_one _) ?_; intro w9 hB9 hx9))
      exact bodyPost_ret (v := .agg (dArr (dirS V))) (results_cell_row rfl _ _ w.heap.size 72 _ (0, 0) _ rfl hB9 Tryz.underlying72 rfl infoDp) rfl ⟨congrArg (fun z => Ending.returned (.agg (dArr (dirS z)))) HV.out.symm, hbr.growB hx9 (Nat.le_refl _)⟩

set_option maxHeartbeats 2000000 in
set_option maxRecDepth 100000 in
theorem ref_Parse (A3 : Option Addr) (n3 c : Nat) (V : List ByteArray) (w : World) (hf : RdS w A3 n3 V) (hn3 : n3 ≤ 1073741824) (hva : ∀ v ∈ V, v.size ≤ 1048576) :
    Calls Tryz.prog 39 #[.slice A3 n3 c] w fun e w' => e = .returned (.agg (dArr (dirS V))) ∧ Ext w w' := by
  have hl3 := hf.lenS
  have Hl3 := Lib.hid hl3
  clear hl3
  have Hne3 := Lib.hid (show 0 < n3 → ∀ a, A3 = some a → a.block < w.heap.size from fun h a ha => by
    obtain ⟨b, o, e, hc⟩ := hf.2 (by have := hf.1; omega)
    rw [ha] at e; injection e with e; subst e
    have := hf.1
    exact World.block_lt_of_cell? _ _ (hc 0 _ (List.getElem?_eq_getElem (by omega))))
  go_enter Tryz.func39, Tryz.ntmps39
  have HZ0 := Lib.hid (Blk.new w 48 (dArr zeroD))
  go_wp2_with fail
  refine (ref_None _).mono ?_; rintro e w1 ⟨rfl, hb1⟩
  have hbw1 := ((Ext.refl w).alloc (.cells (dArr zeroD) 48)).trans hb1
  have HZ1 := Lib.hid (HZ0.out.ext hb1)
  have hlt1 := HZ1.out.lt
  go_wp2_with (first
    | (refine wpList_storeB rfl 48 (.tmp 3) (.tmp 10) rfl rfl w1.heap.size _ rfl rfl 48 _ (Blk.new w1 _ _) infoD rfl (dArr_one noneD) ?_; intro w3 hB3 hx3))
  have hbw3 := (hbw1.alloc (.cells (dArr zeroD) 48)).growB hx3 hbw1.size
  have HZ3 := Lib.hid ((HZ1.out.alloc (.cells (dArr zeroD) 48)).grown hx3 (by simp; omega))
  have hr3 := hf.ext hbw3
  have HB3 := Lib.hid hB3; clear hB3 hx3 HZ1 HZ0
  go_wp2_with fail
  go_loopw [13] (fun i wr => ∃ k, k ≤ n3 ∧ i = .int .i64 (k : Nat) ∧ Ext w wr ∧ RdS wr A3 n3 V ∧ Blk wr w.heap.size 48 (dArr zeroD) ∧ Blk wr w1.heap.size 48 (dArr (dirS (V.take k)))) (fun i _ => n3 - (intOf i).toNat)
  case atStart => exact ⟨0, Nat.zero_le _, rfl, hbw3, hr3, HZ3.out, HB3.out⟩
  case round =>
    obtain ⟨k, hk, rfl, hbr, hrV, hZr, hBr⟩ := hrel
    have hbs := hbr.size
    have HZr := Lib.hid hZr; have HBr := Lib.hid hBr; clear hZr hBr
    by_cases hlt : k < n3
    · have hlt' : k < V.length := by have := Hl3.out; omega
      obtain ⟨b, o, rfl, hc0⟩ := hrV.atS hlt'
      have hvs := hva V[k] (List.getElem_mem hlt')
      have Hst := Lib.hid (dirS_step hlt')
      generalize V[k] = x at *
      go_wp2_with fail
      refine (ref_ListO x _ (by omega)).mono ?_; rintro e w4 ⟨A4, n4, c4, rfl, hr4, hc4, hb4, hown4⟩
      have hbr4 := hbr.trans hb4
      have hrV4 := Rd.ext hrV hb4
      have hlB := HBr.out.lt
      have HZ4 := Lib.hid (HZr.out.ext hb4)
      have HB4 := Lib.hid (HBr.out.ext hb4)
      have Hne4 := Lib.hid (show ∀ a, A4 = some a → a.block ≠ w1.heap.size from fun a ha => by have := own_far hown4 a ha; omega)
      clear hown4 HZr HBr
      cases hp : partsS x 44 with
      | none =>
        have Hno := Lib.hid (Hst.out.trans (stepV_no hp)); clear hp
        rw [show (none : Option (List ByteArray)).isSome = false from rfl]
        have hcl : w4.cell? ⟨w1.heap.size, 0, none⟩ = some (.bool (dirS (V.take k)).b0) := HB4.out.cell 0
        have hfz := HB4.out.frozen 0
        go_wp2_with fail
        go_roundw
        case rel => exact ⟨k + 1, by omega, by go_num, hbr4.setCell (p := ⟨w1.heap.size, 0, none⟩) hbw1.size _, hrV4.growB ((ExtB.refl w1.heap.size w4).set_ 0 _) (fun a ha => by have := Hne3.out (by omega) a ha; omega), HZ4.out.far (by simp; omega) _, by rw [Hno.out]; exact HB4.out.set_ 0 (.bool true)⟩
        case measure => simp [intOf]; omega
      | some P =>
        have Hyes := Lib.hid (Hst.out.trans (stepV_yes hp)); clear hp
        rw [show (some P).isSome = true from rfl]
        have hia := (items_all (s := x)).1
        have hil := (items_all (s := x)).2
        generalize hI : itemsS x = I at *
        clear hI
        have hl4 := hr4.lenS
        have hn4 : n4 ≤ 1048577 := by omega
        have Hl4 := Lib.hid hl4; clear hl4 hil
        go_wp2_with fail
        obtain ⟨wq, hwq⟩ : ∃ wq : World, wq = wr := ⟨_, rfl⟩
        clear hwq
        go_loopw [27] (fun i wi => ∃ j, j ≤ n4 ∧ i = .int .i64 (j : Nat) ∧ Ext w wi ∧ RdS wi (some ⟨b, o, none⟩) n3 V ∧ RdS wi A4 n4 I ∧ Blk wi w.heap.size 48 (dArr zeroD) ∧ Blk wi w1.heap.size 48 (dArr ((I.take j).foldl stepD (dirS (V.take k))))) (fun i _ => n4 - (intOf i).toNat)
        case atStart => exact ⟨0, Nat.zero_le _, rfl, hbr4, hrV4, hr4, HZ4.out, HB4.out⟩
        case round =>
          obtain ⟨j, hj, rfl, hbi, hrVi, hrI, hZi, hBi⟩ := hrel
          have HZi := Lib.hid hZi; have HBi := Lib.hid hBi; clear hZi hBi
          by_cases hjt : j < n4
          · have hjt' : j < I.length := by have := Hl4.out; omega
            obtain ⟨b2, o2, rfl, hd0⟩ := hrI.atS hjt'
            have hys := hia I[j] (List.getElem_mem hjt')
            have Hs2 := Lib.hid (fold_step stepD (dirS (V.take k)) hjt')
            generalize I[j] = y at *
            go_wp2_with (first
              | (refine wpList_loadB rfl 48 (.tmp 3) rfl w1.heap.size rfl 48 _ HBi.out _ Tryz.underlying48 infoD ?_))
            refine (ref_with _ y _ (by omega)).mono ?_; rintro e w5 ⟨rfl, hb5⟩
            have hbi5 := hbi.trans hb5
            have HZ5 := Lib.hid (HZi.out.ext hb5)
            have HB5 := Lib.hid (HBi.out.ext hb5)
            go_wp2_with (first
              | (refine wpList_storeB rfl 48 (.tmp 3) (.tmp 33) rfl rfl w1.heap.size _ rfl rfl 48 _ HB5.out infoD rfl (dArr_one _) ?_; intro w6 hB6 hx6))
            have hbi6 := hbi5.growB hx6 hbw1.size
            have hrV6 := (hrVi.ext hb5).growB hx6 (fun a ha => by have := Hne3.out (by omega) a ha; omega)
            have hrI6 := (hrI.ext hb5).growB hx6 Hne4.out
            have HZ6 := Lib.hid (HZ5.out.grown hx6 (by simp; omega))

            go_wp2_with fail
            go_roundw
            case rel => exact ⟨j + 1, by omega, by go_num, hbi6, hrV6, hrI6, HZ6.out, by rw [Hs2.out]; exact hB6⟩
            case measure => simp [intOf]; omega
          · obtain rfl : j = n4 := by omega
            have he : I.take j = I := List.take_of_length_le (by have := Hl4.out; omega)
            rw [he] at HBi
            clear he
            go_wp2_with fail
            go_roundw
            case rel => exact ⟨k + 1, by omega, by go_num, hbi, hrVi, HZi.out, by rw [Hyes.out]; exact HBi.out⟩
            case measure => simp [intOf]; omega
    · obtain rfl : k = n3 := by omega
      have he : V.take k = V := List.take_of_length_le (by have := Hl3.out; omega)
      rw [he] at HBr
      clear he
      go_wp2_with (first
        | (refine wpList_loadB rfl 48 (.tmp 3) rfl w1.heap.size rfl 48 _ HBr.out _ Tryz.underlying48 infoD ?_)
        | (refine wpList_storeB rfl 48 (.tmp 2) (.tmp 36) rfl rfl w.heap.size _ rfl rfl 48 _ HZr.out infoD rfl (dArr_one _) ?_; intro w9 hB9 hx9))
      exact bodyPost_ret (v := .agg (dArr (dirS V))) (results_cell_row rfl _ _ w.heap.size 48 _ (0, 0) _ rfl hB9 Tryz.underlying48 rfl infoD) rfl ⟨rfl, hbr.growB hx9 (Nat.le_refl _)⟩
end Go.Proofs.YtphgaommokgfcaaGreatDoor

namespace Go.Proofs.YtphgaommokgfcaaGreatDoor
/-- Is a year a leap year? -/
def lpB (y : Int) : Bool := (y % 4 == 0 && y % 100 != 0) || y % 400 == 0
def lp (y : Int) : Int := if lpB y then 1 else 0
/-- The days from 1970 to the beginning of a year. -/
def bef (y : Int) : Int := 365 * (y - 1970) + (y - 1) / 4 - (y - 1) / 100 + (y - 1) / 400 - 477
theorem lp_cases (y : Int) : (lp y = 1 ∧ ((y % 4 = 0 ∧ y % 100 ≠ 0) ∨ y % 400 = 0)) ∨ (lp y = 0 ∧ ¬ ((y % 4 = 0 ∧ y % 100 ≠ 0) ∨ y % 400 = 0)) := by
  unfold lp
  by_cases h : lpB y = true
  · left
    refine ⟨by rw [if_pos h], ?_⟩
    unfold lpB at h
    simpa using h
  · right
    refine ⟨by rw [if_neg h], ?_⟩
    unfold lpB at h
    simpa using h
theorem bef_succ (y : Int) (_ : 1 ≤ y) : bef (y + 1) = bef y + 365 + lp y := by
  unfold bef
  rcases lp_cases y with ⟨h1, h2⟩ | ⟨h1, h2⟩
  · rw [h1]; omega
  · rw [h1]; omega
theorem bef_1970 : bef 1970 = 0 := by decide
theorem bef_mono {a b : Int} (_ : 1 ≤ a) (h : a ≤ b) : bef a + 365 * (b - a) ≤ bef b := by unfold bef; omega
theorem lp_01 (y : Int) : 0 ≤ lp y ∧ lp y ≤ 1 := by rcases lp_cases y with h | h <;> omega
/-- The days of a month. -/
def ml (y m : Int) : Int := if m = 2 then 28 + lp y else if m = 4 ∨ m = 6 ∨ m = 9 ∨ m = 11 then 30 else 31
theorem ml_bd (y m : Int) : 28 ≤ ml y m ∧ ml y m ≤ 31 := by
  have := lp_01 y
  unfold ml; split
  · omega
  · split <;> omega
/-- The days of a year ahead of a month. -/
def cum (y : Int) : Nat → Int
  | 0 => 0
  | n + 1 => cum y n + (if n = 0 then 0 else ml y n)
theorem cum_1 (y : Int) : cum y 1 = 0 := rfl
theorem cum_succ (y : Int) (n : Nat) (h : 0 < n) : cum y (n + 1) = cum y n + ml y n := by
  show cum y n + _ = _
  rw [if_neg (by omega)]
theorem cum_13 (y : Int) : cum y 13 = 365 + lp y := by
  simp only [cum, ml]
  simp
  omega
theorem cum_mono (y : Int) {a b : Nat} (h : a ≤ b) : cum y a ≤ cum y b := by
  induction b with
  | zero => have : a = 0 := by omega
            subst this; exact Int.le_refl _
  | succ b ih =>
    by_cases hb : a = b + 1
    · subst hb; exact Int.le_refl _
    · have h1 := ih (by omega)
      have h2 := ml_bd y b
      show cum y a ≤ cum y b + _
      split <;> omega
/-- The day of a date. -/
def dayN (y : Int) (m : Nat) (d : Int) : Int := bef y + cum y m + d - 1
/-- A date that there is. -/
def okD (y : Int) (m : Nat) (d : Int) : Prop := 1970 ≤ y ∧ y ≤ 9999 ∧ 1 ≤ m ∧ m ≤ 12 ∧ 1 ≤ d ∧ d ≤ ml y m
theorem day_range {y : Int} {m : Nat} {d : Int} (h : okD y m d) : bef y ≤ dayN y m d ∧ dayN y m d < bef (y + 1) := by
  obtain ⟨h1, h2, h3, h4, h5, h6⟩ := h
  have a := cum_mono y h3
  rw [cum_1] at a
  have b := cum_mono y (show m + 1 ≤ 13 by omega)
  rw [cum_13, cum_succ y m (by omega)] at b
  have c := bef_succ y (by omega)
  unfold dayN
  omega
/-- A day has one date. -/
theorem day_one {y y' : Int} {m m' : Nat} {d d' : Int} (h : okD y m d) (h' : okD y' m' d') (he : dayN y m d = dayN y' m' d') : y = y' ∧ m = m' ∧ d = d' := by
  have r := day_range h
  have r' := day_range h'
  obtain ⟨h1, h2, h3, h4, h5, h6⟩ := h
  obtain ⟨k1, k2, k3, k4, k5, k6⟩ := h'
  have hy : y = y' := by
    rcases Int.lt_trichotomy y y' with hl | hl | hl
    · have := bef_mono (a := y + 1) (b := y') (by omega) (by omega); omega
    · exact hl
    · have := bef_mono (a := y' + 1) (b := y) (by omega) (by omega); omega
  subst hy
  have hm : m = m' := by
    unfold dayN at he
    rcases Nat.lt_trichotomy m m' with hl | hl | hl
    · have := cum_mono y (show m + 1 ≤ m' by omega)
      rw [cum_succ y m (by omega)] at this; omega
    · exact hl
    · have := cum_mono y (show m' + 1 ≤ m by omega)
      rw [cum_succ y m' (by omega)] at this; omega
  subst hm
  unfold dayN at he
  exact ⟨rfl, rfl, by omega⟩
theorem bef_guess (d : Int) (h : 0 ≤ d) (h2 : d ≤ 2932896) : bef (1970 + d / 366) ≤ d ∧ 1970 + d / 366 ≤ 9983 := by unfold bef; omega
theorem bef_10000 : bef 10000 = 2932897 := by decide
theorem day_bd {y : Int} {m : Nat} {d : Int} (h : okD y m d) : 0 ≤ dayN y m d ∧ dayN y m d ≤ 2932896 := by
  have r := day_range h
  have a := bef_mono (a := 1970) (b := y) (by omega) h.1
  have b := bef_mono (a := y + 1) (b := 10000) (by have := h.1; omega) (by have := h.2.1; omega)
  rw [bef_1970] at a
  rw [bef_10000] at b
  have := h.1; have := h.2.1
  omega
/-- The year of a day, by counting. -/
def yGo : Nat → Int → Int → Int
  | 0, y, _ => y
  | n + 1, y, d => if d < bef (y + 1) then y else yGo n (y + 1) d
def yOf (d : Int) : Int := yGo 8030 1970 d
def mGo : Nat → Int → Nat → Int → Nat
  | 0, _, m, _ => m
  | n + 1, y, m, r => if r < cum y (m + 1) then m else mGo n y (m + 1) r
def mOf (d : Int) : Nat := mGo 11 (yOf d) 1 (d - bef (yOf d))
def dOf (d : Int) : Int := d - bef (yOf d) - cum (yOf d) (mOf d) + 1
theorem yGo_ok : ∀ (n : Nat) (y d : Int), 1970 ≤ y → bef y ≤ d → d < bef (y + n) → bef (yGo n y d) ≤ d ∧ d < bef (yGo n y d + 1) ∧ 1970 ≤ yGo n y d ∧ yGo n y d < y + n
  | 0, y, d, h0, h1, h2 => by simp at h2; omega
  | n + 1, y, d, h0, h1, h2 => by
    unfold yGo
    split
    · rename_i h; exact ⟨h1, h, h0, by omega⟩
    · rename_i h
      have := yGo_ok n (y + 1) d (by omega) (by omega) (by rw [show y + 1 + (n : Int) = y + ((n + 1 : Nat) : Int) by omega]; exact h2)
      exact ⟨this.1, this.2.1, this.2.2.1, by omega⟩
theorem mGo_ok : ∀ (n : Nat) (y : Int) (m : Nat) (r : Int), 1 ≤ m → cum y m ≤ r → r < cum y (m + n + 1) → cum y (mGo n y m r) ≤ r ∧ r < cum y (mGo n y m r + 1) ∧ 1 ≤ mGo n y m r ∧ mGo n y m r ≤ m + n
  | 0, y, m, r, h0, h1, h2 => ⟨h1, h2, h0, Nat.le_refl _⟩
  | n + 1, y, m, r, h0, h1, h2 => by
    unfold mGo
    split
    · rename_i h; exact ⟨h1, h, h0, by omega⟩
    · rename_i h
      have := mGo_ok n y (m + 1) r (by omega) (by omega) (by rw [show m + 1 + n + 1 = m + (n + 1) + 1 by omega]; exact h2)
      exact ⟨this.1, this.2.1, this.2.2.1, by omega⟩
/-- Every day has its date. -/
theorem date_ok {d : Int} (h0 : 0 ≤ d) (h1 : d ≤ 2932896) : okD (yOf d) (mOf d) (dOf d) ∧ dayN (yOf d) (mOf d) (dOf d) = d := by
  obtain ⟨a1, a2, a3, a4⟩ := yGo_ok 8030 1970 d (Int.le_refl _) (by rw [bef_1970]; exact h0) (by rw [show (1970 : Int) + ((8030 : Nat) : Int) = 10000 by decide, bef_10000]; omega)
  have hy : yGo 8030 1970 d = yOf d := rfl
  rw [hy] at a1 a2 a3 a4
  have hs := bef_succ (yOf d) (by omega)
  obtain ⟨b1, b2, b3, b4⟩ := mGo_ok 11 (yOf d) 1 (d - bef (yOf d)) (Nat.le_refl _) (by rw [cum_1]; omega) (by rw [show 1 + 11 + 1 = 13 from rfl, cum_13]; omega)
  have hm : mGo 11 (yOf d) 1 (d - bef (yOf d)) = mOf d := rfl
  rw [hm] at b1 b2 b3 b4
  rw [cum_succ _ _ (by omega)] at b2
  refine ⟨⟨a3, by omega, b3, by omega, ?_, ?_⟩, ?_⟩
  · unfold dOf; omega
  · unfold dOf; omega
  · unfold dayN dOf; omega
end Go.Proofs.YtphgaommokgfcaaGreatDoor

namespace Go.Proofs.YtphgaommokgfcaaGreatDoor
open Go.RowKit

def moL : List ByteArray := [⟨#[74, 97, 110]⟩, ⟨#[70, 101, 98]⟩, ⟨#[77, 97, 114]⟩, ⟨#[65, 112, 114]⟩, ⟨#[77, 97, 121]⟩, ⟨#[74, 117, 110]⟩, ⟨#[74, 117, 108]⟩, ⟨#[65, 117, 103]⟩, ⟨#[83, 101, 112]⟩, ⟨#[79, 99, 116]⟩, ⟨#[78, 111, 118]⟩, ⟨#[68, 101, 99]⟩]
def wdL : List ByteArray := [⟨#[83, 117, 110]⟩, ⟨#[77, 111, 110]⟩, ⟨#[84, 117, 101]⟩, ⟨#[87, 101, 100]⟩, ⟨#[84, 104, 117]⟩, ⟨#[70, 114, 105]⟩, ⟨#[83, 97, 116]⟩]
def leL : List Int := [31, 28, 31, 30, 31, 30, 31, 31, 30, 31, 30, 31]
/-- The package's three tables hold what their text says. -/
def GlH (w : World) : Prop := RdS w (some ⟨0, 0, none⟩) 12 moL ∧ RdS w (some ⟨1, 0, none⟩) 7 wdL ∧ Rd w 1 (some ⟨2, 0, none⟩) 12 (leL.map (Value.int .i64))
theorem GlH.ext {w w' : World} (h : GlH w) (hb : Ext w w') : GlH w' := ⟨h.1.ext hb, h.2.1.ext hb, h.2.2.ext hb⟩
theorem GlH.len {w : World} (h : GlH w) {k : Nat} (hk : k < 12) : w.cell? ⟨2, k, none⟩ = some (.int .i64 (leL[k]'(by simpa [leL] using hk))) := by
  obtain ⟨b, o, e, hc⟩ := h.2.2.2 (by decide)
  injection e with e; injection e with e1 e2
  subst e1; subst e2
  have := hc k _ (by rw [List.getElem?_map, List.getElem?_eq_getElem (by simpa [leL] using hk)]; rfl)
  rwa [Nat.zero_add] at this
theorem GlH.mon {w : World} (h : GlH w) {k : Nat} (hk : k < 12) : w.cell? ⟨0, k, none⟩ = some (.string (moL[k]'(by simpa [moL] using hk))) := by
  obtain ⟨b, o, e, hc⟩ := h.1.atS (k := k) (by simpa [moL] using hk)
  injection e with e; injection e with e1 e2
  subst e1; subst e2
  rwa [Nat.zero_add] at hc
theorem GlH.wkd {w : World} (h : GlH w) {k : Nat} (hk : k < 7) : w.cell? ⟨1, k, none⟩ = some (.string (wdL[k]'(by simpa [wdL] using hk))) := by
  obtain ⟨b, o, e, hc⟩ := h.2.1.atS (k := k) (by simpa [wdL] using hk)
  injection e with e; injection e with e1 e2
  subst e1; subst e2
  rwa [Nat.zero_add] at hc
theorem ret_i {k : IntKind} {a b : Int} (h : a = b) : Ending.returned (.int k a) = .returned (.int k b) := by rw [h]
theorem leL_ml (y : Int) {m : Nat} (h1 : 1 ≤ m) (h2 : m ≤ 12) (h3 : m ≠ 2) : leL[m - 1]'(by show m - 1 < 12; omega) = ml y m := by
  have : m = 1 ∨ m = 3 ∨ m = 4 ∨ m = 5 ∨ m = 6 ∨ m = 7 ∨ m = 8 ∨ m = 9 ∨ m = 10 ∨ m = 11 ∨ m = 12 := by omega
  rcases this with h | h | h | h | h | h | h | h | h | h | h <;> subst h <;> rfl
theorem ml_2 (y : Int) : ml y 2 = 28 + lp y := rfl

set_option maxHeartbeats 1000000 in
theorem http_leap (y : Int) (w : World) (h0 : 0 ≤ y) (h1 : y ≤ 1000000) :
    Calls Tryz.prog 114 #[.int .i64 y] w fun e w' => e = .returned (.bool (lpB y)) ∧ w' = w := by
  have Hl := Lib.hid (show lpB y = ((y % 4 == 0 && y % 100 != 0) || y % 400 == 0) from rfl)
  generalize lpB y = b at *
  cases h4 : (y % 4 == 0) <;> cases h100 : (y % 100 == 0) <;> cases h400 : (y % 400 == 0)
  all_goals
    have hn : (y % 100 != 0) = !(y % 100 == 0) := rfl
    rw [h100] at hn
    rw [h4, hn, h400] at Hl
    simp only [Bool.not_false, Bool.not_true] at hn
    go_enter Tryz.func114, Tryz.ntmps114
    go_wp2_with fail
    go_ret
    exact ⟨congrArg (fun x => Ending.returned (.bool x)) (by rw [Hl.out]; rfl), rfl⟩

set_option maxHeartbeats 1000000 in
theorem http_month (y : Int) (m : Nat) (w : World) (h0 : 0 ≤ y) (h1 : y ≤ 1000000) (hm1 : 1 ≤ m) (hm2 : m ≤ 12) (hg : GlH w) :
    Calls Tryz.prog 91 #[.int .i64 y, .int .i64 (m : Nat)] w fun e w' => e = .returned (.int .i64 (ml y m)) ∧ w' = w := by
  by_cases h2 : m = 2
  · subst h2
    have hc := hg.len (k := 1) (by decide)
    have Hc := Lib.hid hc; clear hc
    go_enter Tryz.func91, Tryz.ntmps91
    go_wp2_with fail
    refine (http_leap y _ h0 h1).mono ?_; rintro e w1 ⟨rfl, rfl⟩
    cases hl : lpB y
    · have Hv := Lib.hid (show (28 : Int) = ml y 2 by rw [ml_2]; unfold lp; rw [hl]; rfl)
      have hc : w1.cell? ⟨2, 1, none⟩ = some (.int .i64 28) := Hc.out
      go_wp2_with fail
      go_ret
      exact ⟨ret_i Hv.out, rfl⟩
    · have Hv := Lib.hid (show (29 : Int) = ml y 2 by rw [ml_2]; unfold lp; rw [hl]; rfl)
      go_wp2_with fail
      go_ret
      exact ⟨ret_i Hv.out, rfl⟩
  · have hc := hg.len (k := m - 1) (by omega)
    have Hv := Lib.hid (leL_ml y hm1 hm2 h2)
    have hz : ((m : Int) == 2) = false := by rw [beq_eq_false_iff_ne]; omega
    generalize leL[m - 1]'(by show m - 1 < 12; omega) = L at *
    have hi : ((m : Int) - 1).toNat = m - 1 := by omega
    clear h2
    go_enter Tryz.func91, Tryz.ntmps91
    go_wp2_with fail
    go_ret
    exact ⟨ret_i Hv.out, rfl⟩

set_option maxHeartbeats 1000000 in
theorem http_before (y : Int) (w : World) (h0 : 1970 ≤ y) (h1 : y ≤ 1000000) :
    Calls Tryz.prog 92 #[.int .i64 y] w fun e w' => e = .returned (.int .i64 (bef y)) ∧ w' = w := by
  go_enter Tryz.func92, Tryz.ntmps92
  go_wp2_with fail
  go_ret
  exact ⟨ret_i (by unfold bef; rfl), rfl⟩

def wkN (d : Int) : Int := ((d % 7 + 4) % 7 + 7) % 7
theorem wkN_bd (d : Int) : 0 ≤ wkN d ∧ wkN d < 7 := by unfold wkN; omega
set_option maxHeartbeats 1000000 in
theorem http_Weekday (d : Int) (w : World) (h0 : 0 ≤ d) (h1 : d ≤ 1000000000) :
    Calls Tryz.prog 94 #[.int .i64 d] w fun e w' => e = .returned (.int .i64 (wkN d)) ∧ w' = w := by
  go_enter Tryz.func94, Tryz.ntmps94
  go_wp2_with fail
  go_ret
  exact ⟨ret_i (by unfold wkN; omega), rfl⟩

def digU (n : Int) : UInt8 := UInt8.ofNat (48 + n).toNat
def twoS (n : Int) : ByteArray := ⟨#[digU (n / 10), digU (n % 10)]⟩
theorem conv_two (a b : Int) (w : World) : (convert 102 9 (.slice (some ⟨w.heap.size, 0, none⟩) 2 2)).run Tryz.prog (w.alloc (.cells #[.int .u8 a, .int .u8 b] 5)) =
    .ok (.string ⟨#[UInt8.ofNat a.toNat, UInt8.ofNat b.toNat]⟩) (w.alloc (.cells #[.int .u8 a, .int .u8 b] 5)) :=
  run_convert_bytes_arg (P := Tryz.prog) _ 102 5 Tryz.underlying102 Tryz.underlying5 w.heap.size 0 2 2 [a, b] rfl
    (fun i hi => by
      rw [World.cell?_alloc_mark]
      have : i = 0 ∨ i = 1 := by omega
      rcases this with rfl | rfl <;> rfl) 9 Tryz.underlying9
set_option maxHeartbeats 1000000 in
theorem http_two (n : Int) (w : World) (h0 : 0 ≤ n) (h1 : n ≤ 99) :
    Calls Tryz.prog 95 #[.int .i64 n] w fun e w' => e = .returned (.string (twoS n)) ∧ Ext w w' := by
  have hcv := conv_two
  go_enter Tryz.func95, Tryz.ntmps95
  go_wp2_with fail
  go_ret
  exact ⟨congrArg (fun x => Ending.returned (.string x)) (by unfold twoS digU; rfl), (Ext.refl w).alloc _⟩

/-- The number of two digits; -1 if they are none. -/
def dgB (c : UInt8) : Bool := !(decide ((c.toNat : Int) < 48) || decide (57 < (c.toNat : Int)))
def num2 (s : ByteArray) : Int := if h : s.size = 2 then (if dgB s[0] && dgB s[1] then 10 * ((s[0].toNat : Int) - 48) + ((s[1].toNat : Int) - 48) else -1) else -1
theorem dgB_yes {c : UInt8} (h1 : ¬ (c.toNat : Int) < 48) (h2 : ¬ 57 < (c.toNat : Int)) : dgB c = true := by
  unfold dgB; rw [decide_eq_false h1, decide_eq_false h2]; rfl
theorem dgB_no {c : UInt8} (h : (c.toNat : Int) < 48 ∨ 57 < (c.toNat : Int)) : dgB c = false := by
  unfold dgB; rcases h with h | h
  · rw [decide_eq_true h]; rfl
  · rw [decide_eq_true h, Bool.or_true]; rfl
theorem num2_yes {s : ByteArray} (hs : s.size = 2) (h0 : dgB s[0] = true) (h1 : dgB s[1] = true) : num2 s = 10 * ((s[0].toNat : Int) - 48) + ((s[1].toNat : Int) - 48) := by
  unfold num2; rw [dif_pos hs, h0, h1]; rfl
theorem num2_no {s : ByteArray} (hs : s.size = 2) (h : dgB s[0] = false ∨ dgB s[1] = false) : num2 s = -1 := by
  unfold num2; rw [dif_pos hs, if_neg]
  rcases h with h | h <;> rw [h] <;> simp
theorem num2_bd (s : ByteArray) : -1 ≤ num2 s ∧ num2 s ≤ 99 := by
  unfold num2
  split
  · split
    · rename_i h
      simp only [dgB, Bool.and_eq_true, Bool.not_eq_true', Bool.or_eq_false_iff, decide_eq_false_iff_not] at h
      omega
    · omega
  · omega
end Go.Proofs.YtphgaommokgfcaaGreatDoor

namespace Go.Proofs.YtphgaommokgfcaaGreatDoor
open Go.RowKit

instance (y : Int) (m : Nat) (d : Int) : Decidable (okD y m d) := by unfold okD; infer_instance
/-- What Day returns. -/
def dayV (y : Int) (m : Nat) (d : Int) : Value := if okD y m d then .tuple #[.int .i64 (dayN y m d), .nilIface] else .tuple #[.int .i64 0, errV 1]
theorem dayV_yes {y : Int} {m : Nat} {d : Int} (h : okD y m d) : dayV y m d = .tuple #[.int .i64 (dayN y m d), .nilIface] := if_pos h
theorem dayV_no {y : Int} {m : Nat} {d : Int} (h : ¬ okD y m d) : dayV y m d = .tuple #[.int .i64 0, errV 1] := if_neg h
theorem ret_v {a b : Value} (h : a = b) : Ending.returned a = .returned b := by rw [h]
theorem bef_bd {y : Int} (h0 : 1970 ≤ y) (h1 : y ≤ 10000) : 0 ≤ bef y ∧ bef y ≤ 2932897 := by
  have a := bef_mono (a := 1970) (b := y) (by omega) h0
  have b := bef_mono (a := y) (b := 10000) (by omega) h1
  rw [bef_1970] at a
  rw [bef_10000] at b
  omega
theorem cum_bd (y : Int) {m : Nat} (h0 : 1 ≤ m) (h1 : m ≤ 13) : 0 ≤ cum y m ∧ cum y m ≤ 366 := by
  have a := cum_mono y h0
  have b := cum_mono y h1
  rw [cum_1] at a
  rw [cum_13] at b
  have := lp_01 y
  omega

set_option maxHeartbeats 1000000 in
theorem http_number (s : ByteArray) (w : World) (hs : s.size = 2) :
    Calls Tryz.prog 71 #[.string s] w fun e w' => e = .returned (.int .i64 (num2 s)) ∧ Ext w w' := by
  have hlt0 : 0 < s.size := by omega
  have hlt1 : 1 < s.size := by omega
  have Hno := Lib.hid (@num2_no s hs)
  have Hyes := Lib.hid (@num2_yes s hs)
  have hub0 := UInt8.toNat_lt s[0]
  have hub1 := UInt8.toNat_lt s[1]
  by_cases hd : ((s[0].toNat : Int) < 48 ∨ 57 < (s[0].toNat : Int)) ∨ ((s[1].toNat : Int) < 48 ∨ 57 < (s[1].toNat : Int))
  · have Hn := Lib.hid (Hno.out (hd.imp dgB_no dgB_no))
    go_enter Tryz.func71, Tryz.ntmps71
    by_cases a0 : (s[0].toNat : Int) < 48
    · clear hd
      go_wp2_with fail
      all_goals (go_ret; exact ⟨ret_i Hn.out.symm, Ext.refl _⟩)
    · by_cases a1 : 57 < (s[0].toNat : Int)
      · clear hd
        go_wp2_with fail
        all_goals (go_ret; exact ⟨ret_i Hn.out.symm, Ext.refl _⟩)
      · by_cases a2 : (s[1].toNat : Int) < 48
        · clear hd
          go_wp2_with fail
          all_goals (go_ret; exact ⟨ret_i Hn.out.symm, Ext.refl _⟩)
        · have a3 : 57 < (s[1].toNat : Int) := by omega
          clear hd
          go_wp2_with fail
          all_goals (go_ret; exact ⟨ret_i Hn.out.symm, Ext.refl _⟩)
  · have a0 : ¬ (s[0].toNat : Int) < 48 := by omega
    have a1 : ¬ 57 < (s[0].toNat : Int) := by omega
    have a2 : ¬ (s[1].toNat : Int) < 48 := by omega
    have a3 : ¬ 57 < (s[1].toNat : Int) := by omega
    have Hn := Lib.hid (Hyes.out (dgB_yes a0 a1) (dgB_yes a2 a3))
    clear hd
    go_enter Tryz.func71, Tryz.ntmps71
    go_wp2_with fail
    go_region
    all_goals (try go_wp2_with fail)
    all_goals (go_ret; exact ⟨ret_i Hn.out.symm, (Ext.refl _).drew⟩)

set_option maxHeartbeats 1000000 in
theorem http_Day (y : Int) (m : Nat) (d : Int) (w : World) (h0 : 0 ≤ y) (h1 : y ≤ 9999) (hm : m ≤ 12) (hd0 : -1 ≤ d) (hd1 : d ≤ 99) (hg : GlH w) :
    Calls Tryz.prog 72 #[.int .i64 y, .int .i64 (m : Nat), .int .i64 d] w fun e w' => e = .returned (dayV y m d) ∧ w' = w := by
  have Hno := Lib.hid (@dayV_no y m d)
  have Hyes := Lib.hid (@dayV_yes y m d)
  by_cases a1 : y < 1970
  · have Hn := Lib.hid (Hno.out (fun h => by have := h.1; omega))
    go_enter Tryz.func72, Tryz.ntmps72
    go_wp2_with fail
    all_goals (go_ret2; exact ⟨ret_v Hn.out.symm, rfl⟩)
  by_cases a2 : m < 1
  · have Hn := Lib.hid (Hno.out (fun h => by have := h.2.2.1; omega))
    obtain rfl : m = 0 := by omega
    have hle : ¬ (9999 : Int) < y := by omega
    go_enter Tryz.func72, Tryz.ntmps72
    go_wp2_with fail
    all_goals (go_ret2; exact ⟨ret_v Hn.out.symm, rfl⟩)
  by_cases a3 : d < 1
  · have Hn := Lib.hid (Hno.out (fun h => by have := h.2.2.2.2.1; omega))
    have hle : ¬ (9999 : Int) < y := by omega
    have hm1 : ¬ (m : Int) < 1 := by omega
    have hm2 : ¬ (12 : Int) < (m : Int) := by omega
    go_enter Tryz.func72, Tryz.ntmps72
    go_wp2_with fail
    all_goals (go_ret2; exact ⟨ret_v Hn.out.symm, rfl⟩)
  have hle : ¬ (9999 : Int) < y := by omega
  have hm1 : ¬ (m : Int) < 1 := by omega
  have hm2 : ¬ (12 : Int) < (m : Int) := by omega
  have hmo := Lib.hid (http_month y m w h0 (by omega) (by omega) hm hg)
  have hml := ml_bd y m
  by_cases a4 : ml y m < d
  · have Hn := Lib.hid (Hno.out (fun h => by have := h.2.2.2.2.2; omega))
    go_enter Tryz.func72, Tryz.ntmps72
    go_wp2_with fail
    refine hmo.out.mono ?_; rintro e w1 ⟨rfl, rfl⟩
    go_wp2_with fail
    all_goals (go_ret2; exact ⟨ret_v Hn.out.symm, rfl⟩)
  · have Hn := Lib.hid (Hyes.out ⟨by omega, by omega, by omega, hm, by omega, by omega⟩)
    have hbb := bef_bd (y := y) (by omega) (by omega)
    go_enter Tryz.func72, Tryz.ntmps72
    go_wp2_with fail
    refine hmo.out.mono ?_; rintro e w1 ⟨rfl, rfl⟩
    go_wp2_with fail
    refine (http_before y _ (by omega) (by omega)).mono ?_; rintro e w2 ⟨rfl, rfl⟩
    go_wp2_with fail
    go_loopw [8, 9] (fun n i wr => ∃ k : Nat, 1 ≤ k ∧ k ≤ m ∧ n = .int .i64 (bef y + d - 1 + cum y k) ∧ i = .int .i64 (k : Nat) ∧ wr = w2) (fun _ i _ => m - (intOf i).toNat)
    case atStart => exact ⟨1, Nat.le_refl _, by omega, by rw [cum_1, Int.add_zero], rfl, rfl⟩
    case round =>
      obtain ⟨k, hk1, hk, rfl, rfl, rfl⟩ := hrel
      have hcb := cum_bd y hk1 (by omega)
      by_cases hlt : k < m
      · have Hcs := Lib.hid (cum_succ y k (by omega))
        have hmb := ml_bd y k
        go_wp2_with fail
        refine (http_month y k _ h0 (by omega) hk1 (by omega) hg).mono ?_; rintro e w3 ⟨rfl, rfl⟩
        go_wp2_with fail
        go_roundw
        case rel => exact ⟨k + 1, by omega, by omega, by rw [Hcs.out]; go_num, by go_num, trivial⟩
        case measure => simp [intOf]; omega
      · obtain rfl : k = m := by omega
        have Hz := Lib.hid (show Value.tuple #[.int .i64 (bef y + d - 1 + cum y k), .nilIface] = dayV y k d by rw [Hn.out]; unfold dayN; rw [show bef y + d - 1 + cum y k = bef y + cum y k + d - 1 by omega])
        go_wp2_with fail
        go_ret2
        exact ⟨ret_v Hz.out, rfl⟩

theorem results_tmp4 {fn : Func} {t u v x : Tmp} (h : fn.results = #[.tmp t, .tmp u, .tmp v, .tmp x]) (tmps : Array Value) (P : Program) (w : World) :
    (results fn tmps).run P w = .ok (.tuple #[tmps.getD t undef, tmps.getD u undef, tmps.getD v undef, tmps.getD x undef]) w := by
  simp [results, h]
/-- What Date returns. -/
def dateV (d : Int) : Value := .tuple #[.int .i64 (yOf d), .int .i64 (mOf d : Nat), .int .i64 (dOf d), .nilIface]
theorem dateV_of {d y : Int} {m : Nat} {r : Int} (h0 : 0 ≤ d) (h1 : d ≤ 2932896) (hk : okD y m r) (he : dayN y m r = d) : dateV d = .tuple #[.int .i64 y, .int .i64 (m : Nat), .int .i64 r, .nilIface] := by
  obtain ⟨a, b⟩ := date_ok h0 h1
  obtain ⟨e1, e2, e3⟩ := day_one hk a (he.trans b.symm)
  unfold dateV
  rw [← e1, ← e2, ← e3]

set_option maxHeartbeats 1000000 in
theorem http_Date (d : Int) (w : World) (h0 : 0 ≤ d) (h1 : d ≤ 2932896) (hg : GlH w) :
    Calls Tryz.prog 93 #[.int .i64 d] w fun e w' => e = .returned (dateV d) ∧ w' = w := by
  have Hd := Lib.hid (fun y m r => @dateV_of d y m r)
  obtain ⟨hg1, hg2⟩ := bef_guess d h0 h1
  have Hg := Lib.hid hg1; clear hg1
  go_enter Tryz.func93, Tryz.ntmps93
  go_wp2_with fail
  go_loopw [2] (fun y wr => ∃ z : Int, 1970 ≤ z ∧ z ≤ 9999 ∧ bef z ≤ d ∧ y = .int .i64 z ∧ wr = w) (fun y _ => (9999 - intOf y).toNat)
  case atStart => exact ⟨1970 + d / 366, by omega, by omega, Hg.out, rfl, rfl⟩
  case round =>
    obtain ⟨z, hz0, hz1, hzb, rfl, rfl⟩ := hrel
    have Hzb := Lib.hid hzb
    have hbz := bef_bd hz0 (by omega)
    have hbs := bef_bd (y := z + 1) (by omega) (by omega)
    by_cases hc : z < 9999 ∧ bef (z + 1) ≤ d
    · obtain ⟨hc1, hc2⟩ := hc
      go_wp2_with fail
      refine (http_before (z + 1) _ (by omega) (by omega)).mono ?_; rintro e w1 ⟨rfl, rfl⟩
      go_wp2_with fail
      go_roundw
      case rel => exact ⟨z + 1, by omega, by omega, hc2, by go_num, trivial⟩
      case measure => simp [intOf]; omega
    · have hnx : d < bef (z + 1) := by
        by_cases hz9 : z < 9999
        · omega
        · obtain rfl : z = 9999 := by omega
          have : bef (9999 + 1) = 2932897 := bef_10000
          omega
      have Hnx := Lib.hid hnx
      have hbsu := Lib.hid (bef_succ z (by omega))
      by_cases hz9 : z < 9999
      rotate_left
      · clear hc
        go_wp2_with fail
        refine (http_before z _ (by omega) (by omega)).mono ?_; rintro e w2 ⟨rfl, rfl⟩
        go_wp2_with fail
        go_loopw [0, 3] (fun r m wr => ∃ k : Nat, 1 ≤ k ∧ k ≤ 12 ∧ r = .int .i64 (d - bef z - cum z k) ∧ 0 ≤ d - bef z - cum z k ∧ m = .int .i64 (k : Nat) ∧ wr = w2) (fun _ m _ => 12 - (intOf m).toNat)
        case atStart => exact ⟨1, Nat.le_refl _, by omega, by rw [cum_1, Int.sub_zero], by rw [cum_1]; omega, rfl, rfl⟩
        case round =>
          obtain ⟨k, hk1, hk, rfl, hr0, rfl, rfl⟩ := hrel
          have hcb := cum_bd z hk1 (by omega)
          have hmb := ml_bd z k
          have Hcs := Lib.hid (cum_succ z k (by omega))
          have hlp := lp_01 z
          by_cases hge : ml z k ≤ d - bef z - cum z k
          · have hk12 : k < 12 := by
              by_cases h12 : k < 12
              · exact h12
              · obtain rfl : k = 12 := by omega
                have a := Hcs.out
                have b := cum_13 z
                have c := hbsu.out
                have e : cum z (12 + 1) = cum z 13 := rfl
                omega
            go_wp2_with fail
            refine (http_month z k _ (by omega) (by omega) hk1 hk hg).mono ?_; rintro e w3 ⟨rfl, rfl⟩
            go_wp2_with fail
            refine (http_month z k _ (by omega) (by omega) hk1 hk hg).mono ?_; rintro e w4 ⟨rfl, rfl⟩
            go_wp2_with fail
            go_roundw
            case rel => exact ⟨k + 1, by omega, by omega, by rw [Hcs.out]; go_num, by rw [Hcs.out]; omega, by go_num, trivial⟩
            case measure => simp [intOf]; omega
          · have He := Lib.hid (Hd.out z k (d - bef z - cum z k + 1) h0 h1 ⟨hz0, hz1, hk1, hk, by omega, by omega⟩ (by unfold dayN; omega))
            go_wp2_with fail
            refine (http_month z k _ (by omega) (by omega) hk1 hk hg).mono ?_; rintro e w3 ⟨rfl, rfl⟩
            go_wp2_with fail
            (try simp only [Exit.inBlock, Exit.then]); refine bodyPost_ret (results_tmp4 rfl _ _ _) rfl ?_
            exact ⟨ret_v He.out.symm, rfl⟩
      · clear hc
        go_wp2_with fail
        refine (http_before (z + 1) _ (by omega) (by omega)).mono ?_; rintro e w1 ⟨rfl, rfl⟩
        go_wp2_with fail
        refine (http_before z _ (by omega) (by omega)).mono ?_; rintro e w2 ⟨rfl, rfl⟩
        go_wp2_with fail
        go_loopw [0, 3] (fun r m wr => ∃ k : Nat, 1 ≤ k ∧ k ≤ 12 ∧ r = .int .i64 (d - bef z - cum z k) ∧ 0 ≤ d - bef z - cum z k ∧ m = .int .i64 (k : Nat) ∧ wr = w2) (fun _ m _ => 12 - (intOf m).toNat)
        case atStart => exact ⟨1, Nat.le_refl _, by omega, by rw [cum_1, Int.sub_zero], by rw [cum_1]; omega, rfl, rfl⟩
        case round =>
          obtain ⟨k, hk1, hk, rfl, hr0, rfl, rfl⟩ := hrel
          have hcb := cum_bd z hk1 (by omega)
          have hmb := ml_bd z k
          have Hcs := Lib.hid (cum_succ z k (by omega))
          have hlp := lp_01 z
          by_cases hge : ml z k ≤ d - bef z - cum z k
          · have hk12 : k < 12 := by
              by_cases h12 : k < 12
              · exact h12
              · obtain rfl : k = 12 := by omega
                have a := Hcs.out
                have b := cum_13 z
                have c := hbsu.out
                have e : cum z (12 + 1) = cum z 13 := rfl
                omega
            go_wp2_with fail
            refine (http_month z k _ (by omega) (by omega) hk1 hk hg).mono ?_; rintro e w3 ⟨rfl, rfl⟩
            go_wp2_with fail
            refine (http_month z k _ (by omega) (by omega) hk1 hk hg).mono ?_; rintro e w4 ⟨rfl, rfl⟩
            go_wp2_with fail
            go_roundw
            case rel => exact ⟨k + 1, by omega, by omega, by rw [Hcs.out]; go_num, by rw [Hcs.out]; omega, by go_num, trivial⟩
            case measure => simp [intOf]; omega
          · have He := Lib.hid (Hd.out z k (d - bef z - cum z k + 1) h0 h1 ⟨hz0, hz1, hk1, hk, by omega, by omega⟩ (by unfold dayN; omega))
            go_wp2_with fail
            refine (http_month z k _ (by omega) (by omega) hk1 hk hg).mono ?_; rintro e w3 ⟨rfl, rfl⟩
            go_wp2_with fail
            (try simp only [Exit.inBlock, Exit.then]); refine bodyPost_ret (results_tmp4 rfl _ _ _) rfl ?_
            exact ⟨ret_v He.out.symm, rfl⟩
end Go.Proofs.YtphgaommokgfcaaGreatDoor

namespace Go.Proofs.YtphgaommokgfcaaGreatDoor
open Go.RowKit

/-- The text of a date out of its parts. -/
def catS (wd t1 mo t2 t3 t4 t5 t6 : ByteArray) : ByteArray :=
  wd ++ ⟨#[44, 32]⟩ ++ t1 ++ ⟨#[32]⟩ ++ mo ++ ⟨#[32]⟩ ++ t2 ++ t3 ++ ⟨#[32]⟩ ++ t4 ++ ⟨#[58]⟩ ++ t5 ++ ⟨#[58]⟩ ++ t6 ++ ⟨#[32, 71, 77, 84]⟩
def wdS (d : Int) : ByteArray := wdL.getD (wkN d).toNat ⟨#[]⟩
def moS (m : Nat) : ByteArray := moL.getD (m - 1) ⟨#[]⟩
def fmtS (n : Int) : ByteArray := catS (wdS (n / 86400)) (twoS (dOf (n / 86400))) (moS (mOf (n / 86400))) (twoS (yOf (n / 86400) / 100)) (twoS (yOf (n / 86400) % 100)) (twoS (n % 86400 / 3600)) (twoS (n % 86400 / 60 % 60)) (twoS (n % 86400 % 60))
theorem wdS_size {d : Int} : (wdS d).size = 3 := by
  have := wkN_bd d
  unfold wdS
  have h : (wkN d).toNat < 7 := by omega
  generalize (wkN d).toNat = k at *
  have : k = 0 ∨ k = 1 ∨ k = 2 ∨ k = 3 ∨ k = 4 ∨ k = 5 ∨ k = 6 := by omega
  rcases this with h | h | h | h | h | h | h <;> subst h <;> rfl
theorem moS_size {m : Nat} (h1 : 1 ≤ m) (h2 : m ≤ 12) : (moS m).size = 3 := by
  have : m = 1 ∨ m = 2 ∨ m = 3 ∨ m = 4 ∨ m = 5 ∨ m = 6 ∨ m = 7 ∨ m = 8 ∨ m = 9 ∨ m = 10 ∨ m = 11 ∨ m = 12 := by omega
  rcases this with h | h | h | h | h | h | h | h | h | h | h | h <;> subst h <;> rfl
theorem twoS_size (n : Int) : (twoS n).size = 2 := rfl
theorem GlH.monS {w : World} (h : GlH w) {m : Nat} (h1 : 1 ≤ m) (h2 : m ≤ 12) : w.cell? ⟨0, m - 1, none⟩ = some (.string (moS m)) := by
  have := h.mon (k := m - 1) (by omega)
  unfold moS
  rw [List.getD_eq_getElem?_getD, List.getElem?_eq_getElem (by show m - 1 < 12; omega)]
  exact this
theorem GlH.wkdS {w : World} (h : GlH w) (d : Int) : w.cell? ⟨1, (wkN d).toNat, none⟩ = some (.string (wdS d)) := by
  have hb := wkN_bd d
  have := h.wkd (k := (wkN d).toNat) (by omega)
  unfold wdS
  rw [List.getD_eq_getElem?_getD, List.getElem?_eq_getElem (by show (wkN d).toNat < 7; omega)]
  exact this
theorem two_at (n m : Int) (w : World) (h : n = m) (h0 : 0 ≤ m) (h1 : m ≤ 99) :
    Calls Tryz.prog 95 #[.int .i64 n] w fun e w' => e = .returned (.string (twoS m)) ∧ Ext w w' := by subst h; exact http_two n w h0 h1
theorem sum_s (a b : ByteArray) {n k : Nat} (ha : a.size = n) (hb : b.size = k) (hk : n + k ≤ 100) : (∀ w, (Op.stringOp .add a b).run Tryz.prog w = .ok (.string (a ++ b)) w) ∧ (a ++ b).size = n + k :=
  ⟨fun w => run_string_add_sum w a b (by omega), by rw [ByteArray.size_append, ha, hb]⟩

set_option maxHeartbeats 4000000 in
theorem http_Format (n : Int) (w : World) (h0 : 0 ≤ n) (h1 : n ≤ 253402300799) (hg : GlH w) :
    Calls Tryz.prog 73 #[.int .i64 n] w fun e w' => e = .returned (.tuple #[.string (fmtS n), .nilIface]) ∧ Ext w w' := by
  have hd0 : 0 ≤ n / 86400 := by omega
  have hd1 : n / 86400 ≤ 2932896 := by omega
  obtain ⟨⟨y0, y1, m0, m1, c0, c1⟩, -⟩ := date_ok hd0 hd1
  have hml := ml_bd (yOf (n / 86400)) (mOf (n / 86400))
  have hwk := wkN_bd (n / 86400)
  have hcw := hg.wkdS (n / 86400)
  have hcm := hg.monS m0 m1
  obtain ⟨F, hF⟩ : ∃ F, fmtS n = F := ⟨_, rfl⟩
  rw [hF]
  unfold fmtS catS at hF
  have Hf := Lib.hid hF; clear hF
  have hws : (wdS (n / 86400)).size = 3 := wdS_size
  have hms := moS_size m0 m1
  have hDate := http_Date (n / 86400) w hd0 hd1 hg
  have hWk := http_Weekday (n / 86400)
  unfold dateV at hDate
  generalize hdd : n / 86400 = dd at *
  generalize hrr : n % 86400 = rr at *
  have hr0 : 0 ≤ rr := by omega
  have hr1 : rr < 86400 := by omega
  generalize mOf dd = mm at *
  generalize yOf dd = yy at *
  generalize dOf dd = ee at *
  generalize wdS dd = ws at *
  generalize moS mm = ms at *
  generalize wkN dd = wk at *
  obtain ⟨s1, z1⟩ := sum_s ws ⟨#[44, 32]⟩ hws rfl (by decide)
  obtain ⟨s2, z2⟩ := sum_s _ (twoS ee) z1 (twoS_size _) (by decide)
  obtain ⟨s3, z3⟩ := sum_s _ ⟨#[32]⟩ z2 rfl (by decide)
  obtain ⟨s4, z4⟩ := sum_s _ ms z3 hms (by decide)
  obtain ⟨s5, z5⟩ := sum_s _ ⟨#[32]⟩ z4 rfl (by decide)
  obtain ⟨s6, z6⟩ := sum_s _ (twoS (yy / 100)) z5 (twoS_size _) (by decide)
  obtain ⟨s7, z7⟩ := sum_s _ (twoS (yy % 100)) z6 (twoS_size _) (by decide)
  obtain ⟨s8, z8⟩ := sum_s _ ⟨#[32]⟩ z7 rfl (by decide)
  obtain ⟨s9, z9⟩ := sum_s _ (twoS (rr / 3600)) z8 (twoS_size _) (by decide)
  obtain ⟨s10, z10⟩ := sum_s _ ⟨#[58]⟩ z9 rfl (by decide)
  obtain ⟨s11, z11⟩ := sum_s _ (twoS (rr / 60 % 60)) z10 (twoS_size _) (by decide)
  obtain ⟨s12, z12⟩ := sum_s _ ⟨#[58]⟩ z11 rfl (by decide)
  obtain ⟨s13, z13⟩ := sum_s _ (twoS (rr % 60)) z12 (twoS_size _) (by decide)
  obtain ⟨s14, z14⟩ := sum_s _ ⟨#[32, 71, 77, 84]⟩ z13 rfl (by decide)
  clear z1 z2 z3 z4 z5 z6 z7 z8 z9 z10 z11 z12 z13 z14
  have Hw := Lib.hid hWk; clear hWk
  have HD := Lib.hid hDate; clear hDate
  go_enter Tryz.func73, Tryz.ntmps73
  go_wp2_with fail
  refine HD.out.mono ?_; rintro e w1 ⟨rfl, rfl⟩
  go_wp2_with fail
  have hE := (Ext.refl w1).drew
  have j0 : (0 : Int) ≤ (mm : Int) - 1 := by omega
  have j1 : (mm : Int) - 1 < 12 := by omega
  have j2 : (mm : Int) - 1 ≤ 9223372036854775807 := by omega
  have jw : IntKind.i64.wrap ((mm : Int) - 1) = (mm : Int) - 1 := IntWalk.i64_in _ (by omega)
  have hi := show ((mm : Int) - 1).toNat = mm - 1 by omega
  have q1 : yy.tdiv 100 = yy / 100 := Int.tdiv_eq_ediv_of_nonneg (by omega)
  have q2 : yy.tmod 100 = yy % 100 := Int.tmod_eq_emod_of_nonneg (by omega)
  have q3 : rr.tdiv 3600 = rr / 3600 := Int.tdiv_eq_ediv_of_nonneg (by omega)
  have q4 : rr.tdiv 60 = rr / 60 := Int.tdiv_eq_ediv_of_nonneg (by omega)
  have q5 : (rr / 60).tmod 60 = rr / 60 % 60 := Int.tmod_eq_emod_of_nonneg (by omega)
  have q6 : rr.tmod 60 = rr % 60 := Int.tmod_eq_emod_of_nonneg (by omega)
  have k1 : IntKind.i64.wrap (yy / 100) = yy / 100 := IntWalk.i64_in _ (by omega)
  have k3 : IntKind.i64.wrap (rr / 3600) = rr / 3600 := IntWalk.i64_in _ (by omega)
  have k4 : IntKind.i64.wrap (rr / 60) = rr / 60 := IntWalk.i64_in _ (by omega)
  have b1 : 0 ≤ yy / 100 ∧ yy / 100 ≤ 99 := by omega
  have b2 : 0 ≤ yy % 100 ∧ yy % 100 ≤ 99 := by omega
  have b3 : 0 ≤ rr / 3600 ∧ rr / 3600 ≤ 99 := by omega
  have b4 : 0 ≤ rr / 60 % 60 ∧ rr / 60 % 60 ≤ 99 := by omega
  have b5 : 0 ≤ rr % 60 ∧ rr % 60 ≤ 99 := by omega
  have b0 : 0 ≤ ee ∧ ee ≤ 99 := by omega
  have HK := Lib.hid (show ∀ w', Ext w1 w' → (w'.cell? ⟨1, wk.toNat, none⟩ = some (.string ws) ∧ w'.cell? ⟨0, mm - 1, none⟩ = some (.string ms)) from fun w' h => ⟨h.cell hcw, h.cell hcm⟩)
  have j3 : (1 : Int) ≤ (mm : Int) := by omega
  have j4 : (mm : Int) < 13 := by omega
  have j5 : (mm : Int) ≤ 12 := by omega
  refine wp_region_held_drew (S := (fun w' => w'.cell? ⟨1, wk.toNat, none⟩ = some (.string ws) ∧ w'.cell? ⟨0, mm - 1, none⟩ = some (.string ms))) (by kernel_rfl) ?_ (fun hHeld => ?_)
  · (try dsimp only); exact HK.out _ hE
  refine wpAnyH_take (i := 0) (oi := { dst := some 31, op := _, type := _, pos := _, after := _, guard := _ }) (v := ?_) rfl (by kernel_rfl) (by kernel_rfl) (by kernel_rfl) (fun _ _ _ h => h) (Or.inl ⟨by rfl, ?_⟩) (by assumption) ?_
  rotate_left
  · (intro w hSw; (try dsimp only at hSw); go_simp; (try with_reducible rfl))
  (try simp only [Act.put, List.setIfInBounds_toArray, List.set_cons_zero, List.set_cons_succ])
  refine wpAnyH_take (i := 5) (oi := { dst := some 36, op := _, type := _, pos := _, after := _, guard := _ }) (v := ?_) rfl (by kernel_rfl) (by kernel_rfl) (by kernel_rfl) (fun _ _ _ h => h) (Or.inl ⟨by rfl, ?_⟩) (by assumption) ?_
  rotate_left
  · (intro w hSw; (try dsimp only at hSw); go_simp; (try with_reducible rfl))
  (try simp only [Act.put, List.setIfInBounds_toArray, List.set_cons_zero, List.set_cons_succ])
  refine wpAnyH_take (i := 9) (oi := { dst := some 40, op := _, type := _, pos := _, after := _, guard := _ }) (v := ?_) rfl (by kernel_rfl) (by kernel_rfl) (by kernel_rfl) (fun _ _ _ h => h) (Or.inl ⟨by rfl, ?_⟩) (by assumption) ?_
  rotate_left
  · (intro w hSw; (try dsimp only at hSw); go_simp; (try with_reducible rfl))
  (try simp only [Act.put, List.setIfInBounds_toArray, List.set_cons_zero, List.set_cons_succ])
  refine wpAnyH_take (i := 10) (oi := { dst := some 41, op := _, type := _, pos := _, after := _, guard := _ }) (v := ?_) rfl (by kernel_rfl) (by kernel_rfl) (by kernel_rfl) (fun _ _ _ h => h) (Or.inl ⟨by rfl, ?_⟩) (by assumption) ?_
  rotate_left
  · (intro w hSw; (try dsimp only at hSw); go_simp; (try with_reducible rfl))
  (try simp only [Act.put, List.setIfInBounds_toArray, List.set_cons_zero, List.set_cons_succ])
  refine wpAnyH_take (i := 11) (oi := { dst := some 42, op := _, type := _, pos := _, after := _, guard := _ }) (v := ?_) rfl (by kernel_rfl) (by kernel_rfl) (by kernel_rfl) (fun _ _ _ h => h) (Or.inl ⟨by rfl, ?_⟩) (by assumption) ?_
  rotate_left
  · (intro w hSw; (try dsimp only at hSw); go_simp; (try with_reducible rfl))
  (try simp only [Act.put, List.setIfInBounds_toArray, List.set_cons_zero, List.set_cons_succ])
  refine wpAnyH_take (i := 12) (oi := { dst := some 43, op := _, type := _, pos := _, after := _, guard := _ }) (v := ?_) rfl (by kernel_rfl) (by kernel_rfl) (by kernel_rfl) (fun _ _ _ h => h) (Or.inl ⟨by rfl, ?_⟩) (by assumption) ?_
  rotate_left
  · (intro w hSw; (try dsimp only at hSw); go_simp; (try with_reducible rfl))
  (try simp only [Act.put, List.setIfInBounds_toArray, List.set_cons_zero, List.set_cons_succ])
  refine wpAnyH_take (i := 15) (oi := { dst := some 46, op := _, type := _, pos := _, after := _, guard := _ }) (v := ?_) rfl (by kernel_rfl) (by kernel_rfl) (by kernel_rfl) (fun _ _ _ h => h) (Or.inl ⟨by rfl, ?_⟩) (by assumption) ?_
  rotate_left
  · (intro w hSw; (try dsimp only at hSw); go_simp; (try with_reducible rfl))
  (try simp only [Act.put, List.setIfInBounds_toArray, List.set_cons_zero, List.set_cons_succ])
  refine wpAnyH_take (i := 16) (oi := { dst := some 47, op := _, type := _, pos := _, after := _, guard := _ }) (v := ?_) rfl (by kernel_rfl) (by kernel_rfl) (by kernel_rfl) (fun _ _ _ h => h) (Or.inl ⟨by rfl, ?_⟩) (by assumption) ?_
  rotate_left
  · (intro w hSw; (try dsimp only at hSw); go_simp; (try with_reducible rfl))
  (try simp only [Act.put, List.setIfInBounds_toArray, List.set_cons_zero, List.set_cons_succ])
  refine wpAnyH_take (i := 19) (oi := { dst := some 50, op := _, type := _, pos := _, after := _, guard := _ }) (v := ?_) rfl (by kernel_rfl) (by kernel_rfl) (by kernel_rfl) (fun _ _ _ h => h) (Or.inl ⟨by rfl, ?_⟩) (by assumption) ?_
  rotate_left
  · (intro w hSw; (try dsimp only at hSw); go_simp; (try with_reducible rfl))
  (try simp only [Act.put, List.setIfInBounds_toArray, List.set_cons_zero, List.set_cons_succ])
  refine wpAnyH_take (i := 20) (oi := { dst := some 51, op := _, type := _, pos := _, after := _, guard := _ }) (v := ?_) rfl (by kernel_rfl) (by kernel_rfl) (by kernel_rfl) (fun _ _ _ h => h) (Or.inl ⟨by rfl, ?_⟩) (by assumption) ?_
  rotate_left
  · (intro w hSw; (try dsimp only at hSw); go_simp; (try with_reducible rfl))
  (try simp only [Act.put, List.setIfInBounds_toArray, List.set_cons_zero, List.set_cons_succ])
  refine wpAnyH_take (i := 24) (oi := { dst := some 55, op := _, type := _, pos := _, after := _, guard := _ }) (v := ?_) rfl (by kernel_rfl) (by kernel_rfl) (by kernel_rfl) (fun _ _ _ h => h) (Or.inl ⟨by rfl, ?_⟩) (by assumption) ?_
  rotate_left
  · (intro w hSw; (try dsimp only at hSw); go_simp; (try with_reducible rfl))
  (try simp only [Act.put, List.setIfInBounds_toArray, List.set_cons_zero, List.set_cons_succ])
  refine wpAnyH_take (i := 25) (oi := { dst := some 56, op := _, type := _, pos := _, after := _, guard := _ }) (v := ?_) rfl (by kernel_rfl) (by kernel_rfl) (by kernel_rfl) (fun _ _ _ h => h) (Or.inl ⟨by rfl, ?_⟩) (by assumption) ?_
  rotate_left
  · (intro w hSw; (try dsimp only at hSw); go_simp; (try with_reducible rfl))
  (try simp only [Act.put, List.setIfInBounds_toArray, List.set_cons_zero, List.set_cons_succ])
  refine wpAnyH_take (i := 29) (oi := { dst := some 60, op := _, type := _, pos := _, after := _, guard := _ }) (v := ?_) rfl (by kernel_rfl) (by kernel_rfl) (by kernel_rfl) (fun _ _ _ h => h) (Or.inl ⟨by rfl, ?_⟩) (by assumption) ?_
  rotate_left
  · (intro w hSw; (try dsimp only at hSw); go_simp; (try with_reducible rfl))
  (try simp only [Act.put, List.setIfInBounds_toArray, List.set_cons_zero, List.set_cons_succ])
  refine wpAnyH_take (i := 30) (oi := { dst := some 61, op := _, type := _, pos := _, after := _, guard := _ }) (v := ?_) rfl (by kernel_rfl) (by kernel_rfl) (by kernel_rfl) (fun _ _ _ h => h) (Or.inl ⟨by rfl, ?_⟩) (by assumption) ?_
  rotate_left
  · (intro w hSw; (try dsimp only at hSw); go_simp; (try with_reducible rfl))
  (try simp only [Act.put, List.setIfInBounds_toArray, List.set_cons_zero, List.set_cons_succ])
  refine wpAnyH_take (i := 31) (oi := { dst := some 62, op := _, type := _, pos := _, after := _, guard := _ }) (v := ?_) rfl (by kernel_rfl) (by kernel_rfl) (by kernel_rfl) (fun _ _ _ h => h) (Or.inl ⟨by rfl, ?_⟩) (by assumption) ?_
  rotate_left
  · (intro w hSw; (try dsimp only at hSw); go_simp; (try with_reducible rfl))
  (try simp only [Act.put, List.setIfInBounds_toArray, List.set_cons_zero, List.set_cons_succ])
  refine wpAnyH_take (i := 35) (oi := { dst := some 66, op := _, type := _, pos := _, after := _, guard := _ }) (v := ?_) rfl (by kernel_rfl) (by kernel_rfl) (by kernel_rfl) (fun _ _ _ h => h) (Or.inl ⟨by rfl, ?_⟩) (by assumption) ?_
  rotate_left
  · (intro w hSw; (try dsimp only at hSw); go_simp; (try with_reducible rfl))
  (try simp only [Act.put, List.setIfInBounds_toArray, List.set_cons_zero, List.set_cons_succ])
  refine wpAnyH_take (i := 36) (oi := { dst := some 67, op := _, type := _, pos := _, after := _, guard := _ }) (v := ?_) rfl (by kernel_rfl) (by kernel_rfl) (by kernel_rfl) (fun _ _ _ h => h) (Or.inl ⟨by rfl, ?_⟩) (by assumption) ?_
  rotate_left
  · (intro w hSw; (try dsimp only at hSw); go_simp; (try with_reducible rfl))
  (try simp only [Act.put, List.setIfInBounds_toArray, List.set_cons_zero, List.set_cons_succ])
  refine wpAnyH_ready (rs := [1]) (by kernel_rfl) (by simp) ?_
  refine AllReadyH.cons (o := { dst := some 32, op := _, type := _, pos := _, after := _, guard := _ }) rfl (fun K hK => ?_) AllReadyH.nil
  go_simp
  refine (Hw.out _ hd0 (by omega)).mono ?_; rintro e w2 ⟨rfl, rfl⟩
  try go_wp2_with fail
  refine hK.out _ _ ?_ (fun hHeld => ?_)
  · (try dsimp only); exact HK.out _ hE
  clear hK K
  (try simp only [Act.put, List.setIfInBounds_toArray, List.set_cons_zero, List.set_cons_succ])
  refine wpAnyH_take (i := 2) (oi := { dst := some 33, op := _, type := _, pos := _, after := _, guard := _ }) (v := ?_) rfl (by kernel_rfl) (by kernel_rfl) (by kernel_rfl) (fun _ _ _ h => h) (Or.inl ⟨by rfl, ?_⟩) (by assumption) ?_
  rotate_left
  · (intro w hSw; (try dsimp only at hSw); go_simp; (try with_reducible rfl))
  (try simp only [Act.put, List.setIfInBounds_toArray, List.set_cons_zero, List.set_cons_succ])
  refine wpAnyH_take (i := 3) (oi := { dst := some 34, op := _, type := _, pos := _, after := _, guard := _ }) (v := ?_) rfl (by kernel_rfl) (by kernel_rfl) (by kernel_rfl) (fun _ _ _ h => h) (Or.inl ⟨by rfl, ?_⟩) (by assumption) ?_
  rotate_left
  · (intro w hSw; (try dsimp only at hSw); go_simp; (try with_reducible rfl))
  (try simp only [Act.put, List.setIfInBounds_toArray, List.set_cons_zero, List.set_cons_succ])
  refine wpAnyH_take (i := 4) (oi := { dst := some 35, op := _, type := _, pos := _, after := _, guard := _ }) (v := ?_) rfl (by kernel_rfl) (by kernel_rfl) (by kernel_rfl) (fun _ _ _ h => h) (Or.inl ⟨by rfl, ?_⟩) (by assumption) ?_
  rotate_left
  · (intro w hSw; (try dsimp only at hSw); go_simp; (try with_reducible rfl))
  (try simp only [Act.put, List.setIfInBounds_toArray, List.set_cons_zero, List.set_cons_succ])
  refine wpAnyH_ready (rs := [6]) (by kernel_rfl) (by simp) ?_
  refine AllReadyH.cons (o := { dst := some 37, op := _, type := _, pos := _, after := _, guard := _ }) rfl (fun K hK => ?_) AllReadyH.nil
  go_simp
  refine (two_at _ (ee) _ (by rfl) b0.1 b0.2).mono ?_; rintro e w3 ⟨rfl, hb3⟩; replace hE := hE.trans hb3; clear hb3
  try go_wp2_with fail
  refine hK.out _ _ ?_ (fun hHeld => ?_)
  · (try dsimp only); exact HK.out _ hE
  clear hK K
  (try simp only [Act.put, List.setIfInBounds_toArray, List.set_cons_zero, List.set_cons_succ])
  refine wpAnyH_take (i := 7) (oi := { dst := some 38, op := _, type := _, pos := _, after := _, guard := _ }) (v := ?_) rfl (by kernel_rfl) (by kernel_rfl) (by kernel_rfl) (fun _ _ _ h => h) (Or.inl ⟨by rfl, ?_⟩) (by assumption) ?_
  rotate_left
  · (intro w hSw; (try dsimp only at hSw); go_simp; (try with_reducible rfl))
  (try simp only [Act.put, List.setIfInBounds_toArray, List.set_cons_zero, List.set_cons_succ])
  refine wpAnyH_take (i := 8) (oi := { dst := some 39, op := _, type := _, pos := _, after := _, guard := _ }) (v := ?_) rfl (by kernel_rfl) (by kernel_rfl) (by kernel_rfl) (fun _ _ _ h => h) (Or.inl ⟨by rfl, ?_⟩) (by assumption) ?_
  rotate_left
  · (intro w hSw; (try dsimp only at hSw); go_simp; (try with_reducible rfl))
  (try simp only [Act.put, List.setIfInBounds_toArray, List.set_cons_zero, List.set_cons_succ])
  refine wpAnyH_take (i := 13) (oi := { dst := some 44, op := _, type := _, pos := _, after := _, guard := _ }) (v := ?_) rfl (by kernel_rfl) (by kernel_rfl) (by kernel_rfl) (fun _ _ _ h => h) (Or.inl ⟨by rfl, ?_⟩) (by assumption) ?_
  rotate_left
  · (intro w hSw; (try dsimp only at hSw); go_simp; (try with_reducible rfl))
  (try simp only [Act.put, List.setIfInBounds_toArray, List.set_cons_zero, List.set_cons_succ])
  refine wpAnyH_take (i := 14) (oi := { dst := some 45, op := _, type := _, pos := _, after := _, guard := _ }) (v := ?_) rfl (by kernel_rfl) (by kernel_rfl) (by kernel_rfl) (fun _ _ _ h => h) (Or.inl ⟨by rfl, ?_⟩) (by assumption) ?_
  rotate_left
  · (intro w hSw; (try dsimp only at hSw); go_simp; (try with_reducible rfl))
  (try simp only [Act.put, List.setIfInBounds_toArray, List.set_cons_zero, List.set_cons_succ])
  refine wpAnyH_ready (rs := [17]) (by kernel_rfl) (by simp) ?_
  refine AllReadyH.cons (o := { dst := some 48, op := _, type := _, pos := _, after := _, guard := _ }) rfl (fun K hK => ?_) AllReadyH.nil
  go_simp
  refine (two_at _ (yy / 100) _ (by first | exact k1 | exact q1 | rfl | (rw [q1]; exact k1)) b1.1 b1.2).mono ?_; rintro e w3 ⟨rfl, hb3⟩; replace hE := hE.trans hb3; clear hb3
  try go_wp2_with fail
  refine hK.out _ _ ?_ (fun hHeld => ?_)
  · (try dsimp only); exact HK.out _ hE
  clear hK K
  (try simp only [Act.put, List.setIfInBounds_toArray, List.set_cons_zero, List.set_cons_succ])
  refine wpAnyH_take (i := 18) (oi := { dst := some 49, op := _, type := _, pos := _, after := _, guard := _ }) (v := ?_) rfl (by kernel_rfl) (by kernel_rfl) (by kernel_rfl) (fun _ _ _ h => h) (Or.inl ⟨by rfl, ?_⟩) (by assumption) ?_
  rotate_left
  · (intro w hSw; (try dsimp only at hSw); go_simp; (try with_reducible rfl))
  (try simp only [Act.put, List.setIfInBounds_toArray, List.set_cons_zero, List.set_cons_succ])
  refine wpAnyH_ready (rs := [21]) (by kernel_rfl) (by simp) ?_
  refine AllReadyH.cons (o := { dst := some 52, op := _, type := _, pos := _, after := _, guard := _ }) rfl (fun K hK => ?_) AllReadyH.nil
  go_simp
  refine (two_at _ (yy % 100) _ (by first | exact q2 | rfl) b2.1 b2.2).mono ?_; rintro e w3 ⟨rfl, hb3⟩; replace hE := hE.trans hb3; clear hb3
  try go_wp2_with fail
  refine hK.out _ _ ?_ (fun hHeld => ?_)
  · (try dsimp only); exact HK.out _ hE
  clear hK K
  (try simp only [Act.put, List.setIfInBounds_toArray, List.set_cons_zero, List.set_cons_succ])
  refine wpAnyH_take (i := 22) (oi := { dst := some 53, op := _, type := _, pos := _, after := _, guard := _ }) (v := ?_) rfl (by kernel_rfl) (by kernel_rfl) (by kernel_rfl) (fun _ _ _ h => h) (Or.inl ⟨by rfl, ?_⟩) (by assumption) ?_
  rotate_left
  · (intro w hSw; (try dsimp only at hSw); go_simp; (try with_reducible rfl))
  (try simp only [Act.put, List.setIfInBounds_toArray, List.set_cons_zero, List.set_cons_succ])
  refine wpAnyH_take (i := 23) (oi := { dst := some 54, op := _, type := _, pos := _, after := _, guard := _ }) (v := ?_) rfl (by kernel_rfl) (by kernel_rfl) (by kernel_rfl) (fun _ _ _ h => h) (Or.inl ⟨by rfl, ?_⟩) (by assumption) ?_
  rotate_left
  · (intro w hSw; (try dsimp only at hSw); go_simp; (try with_reducible rfl))
  (try simp only [Act.put, List.setIfInBounds_toArray, List.set_cons_zero, List.set_cons_succ])
  refine wpAnyH_ready (rs := [26]) (by kernel_rfl) (by simp) ?_
  refine AllReadyH.cons (o := { dst := some 57, op := _, type := _, pos := _, after := _, guard := _ }) rfl (fun K hK => ?_) AllReadyH.nil
  go_simp
  refine (two_at _ (rr / 3600) _ (by first | exact k3 | exact q3 | rfl | (rw [q3]; exact k3)) b3.1 b3.2).mono ?_; rintro e w3 ⟨rfl, hb3⟩; replace hE := hE.trans hb3; clear hb3
  try go_wp2_with fail
  refine hK.out _ _ ?_ (fun hHeld => ?_)
  · (try dsimp only); exact HK.out _ hE
  clear hK K
  (try simp only [Act.put, List.setIfInBounds_toArray, List.set_cons_zero, List.set_cons_succ])
  refine wpAnyH_take (i := 27) (oi := { dst := some 58, op := _, type := _, pos := _, after := _, guard := _ }) (v := ?_) rfl (by kernel_rfl) (by kernel_rfl) (by kernel_rfl) (fun _ _ _ h => h) (Or.inl ⟨by rfl, ?_⟩) (by assumption) ?_
  rotate_left
  · (intro w hSw; (try dsimp only at hSw); go_simp; (try with_reducible rfl))
  (try simp only [Act.put, List.setIfInBounds_toArray, List.set_cons_zero, List.set_cons_succ])
  refine wpAnyH_take (i := 28) (oi := { dst := some 59, op := _, type := _, pos := _, after := _, guard := _ }) (v := ?_) rfl (by kernel_rfl) (by kernel_rfl) (by kernel_rfl) (fun _ _ _ h => h) (Or.inl ⟨by rfl, ?_⟩) (by assumption) ?_
  rotate_left
  · (intro w hSw; (try dsimp only at hSw); go_simp; (try with_reducible rfl))
  (try simp only [Act.put, List.setIfInBounds_toArray, List.set_cons_zero, List.set_cons_succ])
  refine wpAnyH_ready (rs := [32]) (by kernel_rfl) (by simp) ?_
  refine AllReadyH.cons (o := { dst := some 63, op := _, type := _, pos := _, after := _, guard := _ }) rfl (fun K hK => ?_) AllReadyH.nil
  go_simp
  refine (two_at _ (rr / 60 % 60) _ (by first | (rw [k4]; exact q5) | exact q5 | rfl) b4.1 b4.2).mono ?_; rintro e w3 ⟨rfl, hb3⟩; replace hE := hE.trans hb3; clear hb3
  try go_wp2_with fail
  refine hK.out _ _ ?_ (fun hHeld => ?_)
  · (try dsimp only); exact HK.out _ hE
  clear hK K
  (try simp only [Act.put, List.setIfInBounds_toArray, List.set_cons_zero, List.set_cons_succ])
  refine wpAnyH_take (i := 33) (oi := { dst := some 64, op := _, type := _, pos := _, after := _, guard := _ }) (v := ?_) rfl (by kernel_rfl) (by kernel_rfl) (by kernel_rfl) (fun _ _ _ h => h) (Or.inl ⟨by rfl, ?_⟩) (by assumption) ?_
  rotate_left
  · (intro w hSw; (try dsimp only at hSw); go_simp; (try with_reducible rfl))
  (try simp only [Act.put, List.setIfInBounds_toArray, List.set_cons_zero, List.set_cons_succ])
  refine wpAnyH_take (i := 34) (oi := { dst := some 65, op := _, type := _, pos := _, after := _, guard := _ }) (v := ?_) rfl (by kernel_rfl) (by kernel_rfl) (by kernel_rfl) (fun _ _ _ h => h) (Or.inl ⟨by rfl, ?_⟩) (by assumption) ?_
  rotate_left
  · (intro w hSw; (try dsimp only at hSw); go_simp; (try with_reducible rfl))
  (try simp only [Act.put, List.setIfInBounds_toArray, List.set_cons_zero, List.set_cons_succ])
  refine wpAnyH_ready (rs := [37]) (by kernel_rfl) (by simp) ?_
  refine AllReadyH.cons (o := { dst := some 68, op := _, type := _, pos := _, after := _, guard := _ }) rfl (fun K hK => ?_) AllReadyH.nil
  go_simp
  refine (two_at _ (rr % 60) _ (by first | exact q6 | rfl) b5.1 b5.2).mono ?_; rintro e w3 ⟨rfl, hb3⟩; replace hE := hE.trans hb3; clear hb3
  try go_wp2_with fail
  refine hK.out _ _ ?_ (fun hHeld => ?_)
  · (try dsimp only); exact HK.out _ hE
  clear hK K
  (try simp only [Act.put, List.setIfInBounds_toArray, List.set_cons_zero, List.set_cons_succ])
  refine wpAnyH_take (i := 38) (oi := { dst := some 69, op := _, type := _, pos := _, after := _, guard := _ }) (v := ?_) rfl (by kernel_rfl) (by kernel_rfl) (by kernel_rfl) (fun _ _ _ h => h) (Or.inl ⟨by rfl, ?_⟩) (by assumption) ?_
  rotate_left
  · (intro w hSw; (try dsimp only at hSw); go_simp; (try with_reducible rfl))
  (try simp only [Act.put, List.setIfInBounds_toArray, List.set_cons_zero, List.set_cons_succ])
  refine wpAnyH_take (i := 39) (oi := { dst := some 70, op := _, type := _, pos := _, after := _, guard := _ }) (v := ?_) rfl (by kernel_rfl) (by kernel_rfl) (by kernel_rfl) (fun _ _ _ h => h) (Or.inl ⟨by rfl, ?_⟩) (by assumption) ?_
  rotate_left
  · (intro w hSw; (try dsimp only at hSw); go_simp; (try with_reducible rfl))
  (try simp only [Act.put, List.setIfInBounds_toArray, List.set_cons_zero, List.set_cons_succ])
  refine wpAnyH_take (i := 40) (oi := { dst := some 2, op := _, type := _, pos := _, after := _, guard := _ }) (v := ?_) rfl (by kernel_rfl) (by kernel_rfl) (by kernel_rfl) (fun _ _ _ h => h) (Or.inl ⟨by rfl, ?_⟩) (by assumption) ?_
  rotate_left
  · (intro w hSw; (try dsimp only at hSw); go_simp; (try with_reducible rfl))
  (try simp only [Act.put, List.setIfInBounds_toArray, List.set_cons_zero, List.set_cons_succ])
  refine wpAnyH_take (i := 41) (oi := { dst := some 3, op := _, type := _, pos := _, after := _, guard := _ }) (v := ?_) rfl (by kernel_rfl) (by kernel_rfl) (by kernel_rfl) (fun _ _ _ h => h) (Or.inl ⟨by rfl, ?_⟩) (by assumption) ?_
  rotate_left
  · (intro w hSw; (try dsimp only at hSw); go_simp; (try with_reducible rfl))
  (try simp only [Act.put, List.setIfInBounds_toArray, List.set_cons_zero, List.set_cons_succ])
  refine wpAnyH_done (by kernel_rfl) ?_ _
  go_wp2_with fail
  go_ret2
  exact ⟨ret_v (congrArg (fun x => Value.tuple #[.string x, .nilIface]) Hf.out), hE⟩
end Go.Proofs.YtphgaommokgfcaaGreatDoor

namespace Go.Proofs.YtphgaommokgfcaaGreatDoor
open Go.RowKit

/-- The number of a month's name among the first k; 0 if it is none of them. -/
def moA (t : ByteArray) : Nat → Nat
  | 0 => 0
  | k + 1 => if (t.toList == (moS (k + 1)).toList) then k + 1 else moA t k
theorem moA_yes {t : ByteArray} {k : Nat} (h : (t.toList == (moS (k + 1)).toList) = true) : moA t (k + 1) = k + 1 := if_pos h
theorem moA_no {t : ByteArray} {k : Nat} (h : (t.toList == (moS (k + 1)).toList) = false) : moA t (k + 1) = moA t k := if_neg (by rw [h]; decide)
theorem moA_le (t : ByteArray) : ∀ k, moA t k ≤ k
  | 0 => Nat.le_refl _
  | k + 1 => by
    unfold moA
    have := moA_le t k
    split <;> omega
def secN (y : Int) (m : Nat) (d h mi se : Int) : Int := 86400 * dayN y m d + 3600 * h + 60 * mi + se
/-- What Parse makes of the parts. -/
def dateQ (s : ByteArray) (d c y h mi se : Int) (m : Nat) : Option Int :=
  if d < 0 ∨ c < 0 ∨ y < 0 ∨ h < 0 ∨ 23 < h ∨ mi < 0 ∨ 59 < mi ∨ se < 0 ∨ 59 < se then none
  else if okD (100 * c + y) m d then (if ((fmtS (secN (100 * c + y) m d h mi se)).toList == s.toList) then some (secN (100 * c + y) m d h mi se) else none) else none
def dateP (s : ByteArray) : Option Int :=
  if s.size = 29 then dateQ s (num2 (s.extract 5 7)) (num2 (s.extract 12 14)) (num2 (s.extract 14 16)) (num2 (s.extract 17 19)) (num2 (s.extract 20 22)) (num2 (s.extract 23 25)) (moA (s.extract 8 11) 12) else none
def dpV : Option Int → Value
  | some n => .tuple #[.int .i64 n, .nilIface]
  | none => .tuple #[.int .i64 0, errV 2]
theorem dateQ_bad {s : ByteArray} {d c y h mi se : Int} {m : Nat} (hb : d < 0 ∨ c < 0 ∨ y < 0 ∨ h < 0 ∨ 23 < h ∨ mi < 0 ∨ 59 < mi ∨ se < 0 ∨ 59 < se) : dpV (dateQ s d c y h mi se m) = .tuple #[.int .i64 0, errV 2] := by unfold dateQ; rw [if_pos hb]; rfl
theorem dateQ_day {s : ByteArray} {d c y h mi se : Int} {m : Nat} (hd : ¬ okD (100 * c + y) m d) : dpV (dateQ s d c y h mi se m) = .tuple #[.int .i64 0, errV 2] := by unfold dateQ; rw [if_neg hd]; split <;> rfl
theorem dateQ_txt {s : ByteArray} {d c y h mi se : Int} {m : Nat} (hd : ((fmtS (secN (100 * c + y) m d h mi se)).toList == s.toList) = false) : dpV (dateQ s d c y h mi se m) = .tuple #[.int .i64 0, errV 2] := by unfold dateQ; rw [hd]; split <;> (try split) <;> rfl
theorem dateQ_yes {s : ByteArray} {d c y h mi se : Int} {m : Nat} (hb : ¬ (d < 0 ∨ c < 0 ∨ y < 0 ∨ h < 0 ∨ 23 < h ∨ mi < 0 ∨ 59 < mi ∨ se < 0 ∨ 59 < se)) (hk : okD (100 * c + y) m d)
    (hd : ((fmtS (secN (100 * c + y) m d h mi se)).toList == s.toList) = true) : dpV (dateQ s d c y h mi se m) = .tuple #[.int .i64 (secN (100 * c + y) m d h mi se), .nilIface] := by unfold dateQ; rw [if_neg hb, if_pos hk, hd]; rfl
def moV : Array Value := #[.string (moS 1), .string (moS 2), .string (moS 3), .string (moS 4), .string (moS 5), .string (moS 6), .string (moS 7), .string (moS 8), .string (moS 9), .string (moS 10), .string (moS 11), .string (moS 12)]
set_option maxRecDepth 100000 in
theorem mo_index (k : Nat) (hk : k < 12) (w : World) : (Instr.index 114 (.agg moV) (.int .i64 (k : Nat))).run Tryz.prog w = .ok (.string (moS (k + 1))) w := by
  have : k = 0 ∨ k = 1 ∨ k = 2 ∨ k = 3 ∨ k = 4 ∨ k = 5 ∨ k = 6 ∨ k = 7 ∨ k = 8 ∨ k = 9 ∨ k = 10 ∨ k = 11 := by omega
  rcases this with h | h | h | h | h | h | h | h | h | h | h | h <;> subst h <;> rfl
theorem GlH.moR {w : World} (h : GlH w) : w.rangeAt 0 0 moV.toList := by
  intro j v hv
  have hj : j < 12 := by
    have := (List.getElem?_eq_some_iff.1 hv).1
    exact this
  have := h.monS (m := j + 1) (by omega) (by omega)
  rw [Nat.zero_add]
  rw [Nat.add_sub_cancel] at this
  rw [this]
  have : j = 0 ∨ j = 1 ∨ j = 2 ∨ j = 3 ∨ j = 4 ∨ j = 5 ∨ j = 6 ∨ j = 7 ∨ j = 8 ∨ j = 9 ∨ j = 10 ∨ j = 11 := by omega
  rcases this with h | h | h | h | h | h | h | h | h | h | h | h <;> subst h <;> exact hv
theorem mo_load {w : World} (h : GlH w) : (Instr.loadAt 114 (.pointer (some ⟨0, 0, none⟩))).run Tryz.prog w = .ok (.agg moV) w :=
  run_loadAt_mid (P := Tryz.prog) w _ 0 114 moV.toList _ h.moR Tryz.underlying114 rfl (by kernel_rfl)

set_option maxHeartbeats 4000000 in
set_option maxRecDepth 100000 in
theorem http_Parse (s : ByteArray) (w : World) (_hs : s.size ≤ 140737488351232) (hg : GlH w) :
    Calls Tryz.prog 55 #[.string s] w fun e w' => e = .returned (dpV (dateP s)) ∧ Ext w w' := by
  by_cases h29 : s.size = 29
  rotate_left
  · have Hn := Lib.hid (show Value.tuple #[.int .i64 0, errV 2] = dpV (dateP s) by unfold dateP; rw [if_neg h29]; rfl)
    have hz : ((s.size : Int) == 29) = false := by rw [beq_eq_false_iff_ne]; omega
    go_enter Tryz.func55, Tryz.ntmps55
    go_wp2_with fail
    all_goals (go_ret2; exact ⟨ret_v Hn.out, Ext.refl _⟩)
  have Hp : dateP s = dateQ s (num2 (s.extract 5 7)) (num2 (s.extract 12 14)) (num2 (s.extract 14 16)) (num2 (s.extract 17 19)) (num2 (s.extract 20 22)) (num2 (s.extract 23 25)) (moA (s.extract 8 11) 12) := if_pos h29
  rw [Hp]; clear Hp
  obtain ⟨T1, hx1⟩ : ∃ T, s.extract 5 7 = T := ⟨_, rfl⟩
  obtain ⟨T2, hx2⟩ : ∃ T, s.extract 12 14 = T := ⟨_, rfl⟩
  obtain ⟨T3, hx3⟩ : ∃ T, s.extract 14 16 = T := ⟨_, rfl⟩
  obtain ⟨T4, hx4⟩ : ∃ T, s.extract 17 19 = T := ⟨_, rfl⟩
  obtain ⟨T5, hx5⟩ : ∃ T, s.extract 20 22 = T := ⟨_, rfl⟩
  obtain ⟨T6, hx6⟩ : ∃ T, s.extract 23 25 = T := ⟨_, rfl⟩
  obtain ⟨T7, hx7⟩ : ∃ T, s.extract 8 11 = T := ⟨_, rfl⟩
  obtain ⟨m, hM⟩ : ∃ m, moA T7 12 = m := ⟨_, rfl⟩
  have hm12 : m ≤ 12 := by rw [← hM]; exact moA_le T7 12
  rw [hx1, hx2, hx3, hx4, hx5, hx6, hx7, hM]
  have N1 := Lib.hid (fun w => http_number T1 w (by rw [← hx1, ByteArray.size_extract]; omega))
  have B1 := num2_bd T1
  generalize num2 T1 = d at *
  have N2 := Lib.hid (fun w => http_number T2 w (by rw [← hx2, ByteArray.size_extract]; omega))
  have B2 := num2_bd T2
  generalize num2 T2 = c at *
  have N3 := Lib.hid (fun w => http_number T3 w (by rw [← hx3, ByteArray.size_extract]; omega))
  have B3 := num2_bd T3
  generalize num2 T3 = y at *
  have N4 := Lib.hid (fun w => http_number T4 w (by rw [← hx4, ByteArray.size_extract]; omega))
  have B4 := num2_bd T4
  generalize num2 T4 = h at *
  have N5 := Lib.hid (fun w => http_number T5 w (by rw [← hx5, ByteArray.size_extract]; omega))
  have B5 := num2_bd T5
  generalize num2 T5 = mi at *
  have N6 := Lib.hid (fun w => http_number T6 w (by rw [← hx6, ByteArray.size_extract]; omega))
  have B6 := num2_bd T6
  generalize num2 T6 = se at *
  have Hbad := Lib.hid (fun m => @dateQ_bad s d c y h mi se m)
  have Hday := Lib.hid (fun m => @dateQ_day s d c y h mi se m)
  have Htxt := Lib.hid (fun m => @dateQ_txt s d c y h mi se m)
  have Hyes := Lib.hid (fun m => @dateQ_yes s d c y h mi se m)
  go_enter Tryz.func55, Tryz.ntmps55
  go_wp2_with fail
  have hE := (Ext.refl w).drew
  go_region_held3 (fun _ => True) (trivial)
    (first
      | (go_at_call_of 71 T1; refine (N1.out _).mono ?_; rintro e w2 ⟨rfl, hb2⟩; have hE := hE.trans hb2)
      | (go_at_call_of 71 T2; refine (N2.out _).mono ?_; rintro e w2 ⟨rfl, hb2⟩; have hE := hE.trans hb2)
      | (go_at_call_of 71 T3; refine (N3.out _).mono ?_; rintro e w2 ⟨rfl, hb2⟩; have hE := hE.trans hb2))
  go_wp2_with fail
  have hE := hE.drew
  go_region_held3 (fun _ => True) (trivial)
    (first
      | (go_at_call_of 71 T4; refine (N4.out _).mono ?_; rintro e w2 ⟨rfl, hb2⟩; have hE := hE.trans hb2)
      | (go_at_call_of 71 T5; refine (N5.out _).mono ?_; rintro e w2 ⟨rfl, hb2⟩; have hE := hE.trans hb2)
      | (go_at_call_of 71 T6; refine (N6.out _).mono ?_; rintro e w2 ⟨rfl, hb2⟩; have hE := hE.trans hb2))
  have hg' := hg.ext hE
  have c1 := hg'.monS (m := 1) (by decide) (by decide)
  have c2 := hg'.monS (m := 2) (by decide) (by decide)
  have c3 := hg'.monS (m := 3) (by decide) (by decide)
  have c4 := hg'.monS (m := 4) (by decide) (by decide)
  have c5 := hg'.monS (m := 5) (by decide) (by decide)
  have c6 := hg'.monS (m := 6) (by decide) (by decide)
  have c7 := hg'.monS (m := 7) (by decide) (by decide)
  have c8 := hg'.monS (m := 8) (by decide) (by decide)
  have c9 := hg'.monS (m := 9) (by decide) (by decide)
  have c10 := hg'.monS (m := 10) (by decide) (by decide)
  have c11 := hg'.monS (m := 11) (by decide) (by decide)
  have c12 := hg'.monS (m := 12) (by decide) (by decide)
  simp only [Nat.reduceSub] at c1 c2 c3 c4 c5 c6 c7 c8 c9 c10 c11 c12
  go_wp2_with fail
  have HM := Lib.hid hM; clear hM
  clear c1 c2 c3 c4 c5 c6 c7 c8 c9 c10 c11 c12
  go_loopw [10, 41] (fun m i wr => ∃ k : Nat, k ≤ 12 ∧ m = .int .i64 (moA T7 k : Nat) ∧ i = .int .i64 (k : Nat) ∧ wr = w2) (fun _ i _ => 12 - (intOf i).toNat)
  case atStart => exact ⟨0, by omega, rfl, rfl, rfl⟩
  case round =>
    obtain ⟨k, hk, hmk, rfl, rfl⟩ := hrel
    by_cases hlt : k < 12
    · subst hmk
      have hix := mo_index k hlt
      unfold moV at hix
      generalize ht : moS (k + 1) = t at *
      cases he : (T7.toList == t.toList)
      · have Hm := Lib.hid (show moA T7 (k + 1) = moA T7 k from moA_no (by rw [ht]; exact he))
        go_wp2_with fail
        go_roundw
        case rel => exact ⟨k + 1, by omega, by rw [Hm.out], by go_num, trivial⟩
        case measure => simp [intOf]; omega
      · have Hm := Lib.hid (show moA T7 (k + 1) = k + 1 from moA_yes (by rw [ht]; exact he))
        go_wp2_with fail
        go_roundw
        case rel => exact ⟨k + 1, by omega, by rw [Hm.out]; go_num, by go_num, trivial⟩
        case measure => simp [intOf]; omega
    · obtain rfl : k = 12 := by omega
      rw [HM.out] at hmk
      subst hmk
      have Hbad := Lib.hid (Hbad.out m)
      have Hday := Lib.hid (Hday.out m)
      have Htxt := Lib.hid (Htxt.out m)
      have Hyes := Lib.hid (Hyes.out m)
      by_cases a0 : d < 0
      · have Hn := Lib.hid (Hbad.out (by omega))
        go_wp2_with fail
        all_goals (go_ret2; exact ⟨ret_v Hn.out.symm, hE⟩)
      by_cases a1 : c < 0
      · have Hn := Lib.hid (Hbad.out (by omega))
        go_wp2_with fail
        all_goals (go_ret2; exact ⟨ret_v Hn.out.symm, hE⟩)
      by_cases a2 : y < 0
      · have Hn := Lib.hid (Hbad.out (by omega))
        go_wp2_with fail
        all_goals (go_ret2; exact ⟨ret_v Hn.out.symm, hE⟩)
      by_cases a3 : h < 0
      · have Hn := Lib.hid (Hbad.out (by omega))
        go_wp2_with fail
        all_goals (go_ret2; exact ⟨ret_v Hn.out.symm, hE⟩)
      by_cases a4 : 23 < h
      · have Hn := Lib.hid (Hbad.out (by omega))
        go_wp2_with fail
        all_goals (go_ret2; exact ⟨ret_v Hn.out.symm, hE⟩)
      by_cases a5 : mi < 0
      · have Hn := Lib.hid (Hbad.out (by omega))
        go_wp2_with fail
        all_goals (go_ret2; exact ⟨ret_v Hn.out.symm, hE⟩)
      by_cases a6 : 59 < mi
      · have Hn := Lib.hid (Hbad.out (by omega))
        go_wp2_with fail
        all_goals (go_ret2; exact ⟨ret_v Hn.out.symm, hE⟩)
      by_cases a7 : se < 0
      · have Hn := Lib.hid (Hbad.out (by omega))
        go_wp2_with fail
        all_goals (go_ret2; exact ⟨ret_v Hn.out.symm, hE⟩)
      by_cases a8 : 59 < se
      · have Hn := Lib.hid (Hbad.out (by omega))
        go_wp2_with fail
        all_goals (go_ret2; exact ⟨ret_v Hn.out.symm, hE⟩)
      have Hok := Lib.hid (show ¬ (d < 0 ∨ c < 0 ∨ y < 0 ∨ h < 0 ∨ 23 < h ∨ mi < 0 ∨ 59 < mi ∨ se < 0 ∨ 59 < se) by omega)
      have hdy := http_Day (100 * c + y) m d _ (by omega) (by omega) hm12 (by omega) (by omega) hg'
      by_cases hok : okD (100 * c + y) m d
      rotate_left
      · have Hn := Lib.hid (Hday.out hok)
        rw [dayV_no hok, show errV 1 = .iface 66 (.int .i64 1) from rfl] at hdy
        have Hd := Lib.hid hdy; clear hdy hok
        go_wp2_with fail
        refine Hd.out.mono ?_; rintro e w3 ⟨rfl, rfl⟩
        go_wp2_with fail
        all_goals (go_ret2; exact ⟨ret_v Hn.out.symm, hE⟩)
      rw [dayV_yes hok] at hdy
      have Hd := Lib.hid hdy; clear hdy
      obtain ⟨e0, e1⟩ := day_bd hok
      have Hyes := Lib.hid (Hyes.out Hok.out hok)
      unfold secN at Htxt Hyes
      clear hok
      generalize dayN (100 * c + y) m d = D at *
      have hfm := Lib.hid (fun w => http_Format (86400 * D + 3600 * h + 60 * mi + se) w (by omega) (by omega))
      cases hq : ((fmtS (86400 * D + 3600 * h + 60 * mi + se)).toList == s.toList)
      · have Hn := Lib.hid (Htxt.out hq)
        go_wp2_with fail
        refine Hd.out.mono ?_; rintro e w3 ⟨rfl, rfl⟩
        go_wp2_with fail
        refine (hfm.out _ hg').mono ?_; rintro e w4 ⟨rfl, hb4⟩
        go_wp2_with fail
        all_goals (go_ret2; exact ⟨ret_v Hn.out.symm, hE.trans hb4⟩)
      · have Hn := Lib.hid (Hyes.out hq)
        go_wp2_with fail
        refine Hd.out.mono ?_; rintro e w3 ⟨rfl, rfl⟩
        go_wp2_with fail
        refine (hfm.out _ hg').mono ?_; rintro e w4 ⟨rfl, hb4⟩
        go_wp2_with fail
        all_goals (go_ret2; exact ⟨ret_v Hn.out.symm, hE.trans hb4⟩)
end Go.Proofs.YtphgaommokgfcaaGreatDoor

namespace Go.Proofs.YtphgaommokgfcaaGreatDoor

theorem secN_bd {y c y' : Int} {m : Nat} {d h mi se : Int} (hb : ¬ (d < 0 ∨ c < 0 ∨ y' < 0 ∨ h < 0 ∨ 23 < h ∨ mi < 0 ∨ 59 < mi ∨ se < 0 ∨ 59 < se)) (hk : okD y m d) : 0 ≤ secN y m d h mi se ∧ secN y m d h mi se ≤ 253402300799 := by
  have := day_bd hk
  unfold secN
  omega
theorem dateP_bd {s : ByteArray} {n : Int} (h : dateP s = some n) : 0 ≤ n ∧ n ≤ 253402300799 := by
  unfold dateP at h
  split at h
  · unfold dateQ at h
    split at h
    · cases h
    · rename_i hb
      split at h
      · rename_i hk
        split at h
        · injection h with h
          rw [← h]
          exact secN_bd hb hk
        · cases h
      · cases h
  · cases h
theorem dateP_fmt {s : ByteArray} {n : Int} (h : dateP s = some n) : fmtS n = s := by
  unfold dateP at h
  split at h
  · unfold dateQ at h
    split at h
    · cases h
    · split at h
      · split at h
        · rename_i he
          injection h with h
          rw [← h]
          exact eqS_iff.1 he
        · cases h
      · cases h
  · cases h
theorem num_two {n : Int} (h0 : 0 ≤ n) (h1 : n ≤ 99) : num2 (twoS n) = n := by
  have : ∀ k : Fin 100, num2 (twoS (k.val : Int)) = (k.val : Int) := by decide +kernel
  have := this ⟨n.toNat, by omega⟩
  simp only at this
  rwa [show ((n.toNat : Nat) : Int) = n by omega] at this
theorem mo_moS {m : Nat} (h1 : 1 ≤ m) (h2 : m ≤ 12) : moA (moS m) 12 = m := by
  have : ∀ k : Fin 12, moA (moS (k.val + 1)) 12 = k.val + 1 := by decide +kernel
  have := this ⟨m - 1, by omega⟩
  simp only at this
  rwa [show m - 1 + 1 = m by omega] at this
theorem three {s : ByteArray} (h : s.size = 3) : ∃ a b c, s = ⟨#[a, b, c]⟩ := by
  obtain ⟨⟨l⟩⟩ := s
  have : l.length = 3 := h
  match l, this with
  | [a, b, c], _ => exact ⟨a, b, c, rfl⟩
theorem catS_list (a b c p q d e f r s t u v w x y z y' : UInt8) : (catS ⟨#[a, b, c]⟩ ⟨#[p, q]⟩ ⟨#[d, e, f]⟩ ⟨#[r, s]⟩ ⟨#[t, u]⟩ ⟨#[v, w]⟩ ⟨#[x, y]⟩ ⟨#[z, y']⟩).data.toList =
    [a, b, c, 44, 32, p, q, 32, d, e, f, 32, r, s, t, u, 32, v, w, 58, x, y, 58, z, y', 32, 71, 77, 84] := by
  unfold catS
  simp only [data_append]
  rfl
theorem ext_list {S : ByteArray} {l : List UInt8} (h : S.data.toList = l) (i j : Nat) : (S.extract i j).data.toList = (l.drop i).take (j - i) := by
  rw [← ByteArray.toList_eq, Lib.extract_toList, h]
theorem dateP_fmtS {n : Int} (h0 : 0 ≤ n) (h1 : n ≤ 253402300799) : dateP (fmtS n) = some n := by
  have hd0 : 0 ≤ n / 86400 := by omega
  have hd1 : n / 86400 ≤ 2932896 := by omega
  obtain ⟨hk, hday⟩ := date_ok hd0 hd1
  obtain ⟨y0, y1, m0, m1, d0, d1⟩ := id hk
  have hml := ml_bd (yOf (n / 86400)) (mOf (n / 86400))
  have hf : ∀ Y : ByteArray, Y = fmtS n → Y.size = 29 → num2 (Y.extract 5 7) = dOf (n / 86400) → num2 (Y.extract 12 14) = yOf (n / 86400) / 100 → num2 (Y.extract 14 16) = yOf (n / 86400) % 100 →
      num2 (Y.extract 17 19) = n % 86400 / 3600 → num2 (Y.extract 20 22) = n % 86400 / 60 % 60 → num2 (Y.extract 23 25) = n % 86400 % 60 → moA (Y.extract 8 11) 12 = mOf (n / 86400) → dateP Y = some n := by
    intro Y hY hs e1 e2 e3 e4 e5 e6 e7
    unfold dateP
    rw [if_pos hs, e1, e2, e3, e4, e5, e6, e7]
    unfold dateQ
    rw [if_neg (by omega), show 100 * (yOf (n / 86400) / 100) + yOf (n / 86400) % 100 = yOf (n / 86400) by omega, if_pos hk]
    have hsec : secN (yOf (n / 86400)) (mOf (n / 86400)) (dOf (n / 86400)) (n % 86400 / 3600) (n % 86400 / 60 % 60) (n % 86400 % 60) = n := by
      unfold secN; rw [hday]; omega
    rw [hsec, hY, if_pos (eqS_iff.2 rfl)]
  obtain ⟨a, b, c, hw⟩ := three (wdS_size (d := n / 86400))
  obtain ⟨d, e, f, hm⟩ := three (moS_size m0 m1)
  have key : fmtS n = catS ⟨#[a, b, c]⟩ (twoS (dOf (n / 86400))) ⟨#[d, e, f]⟩ (twoS (yOf (n / 86400) / 100)) (twoS (yOf (n / 86400) % 100)) (twoS (n % 86400 / 3600)) (twoS (n % 86400 / 60 % 60)) (twoS (n % 86400 % 60)) := by
    unfold fmtS; rw [hw, hm]
  have hl := catS_list a b c (digU (dOf (n / 86400) / 10)) (digU (dOf (n / 86400) % 10)) d e f (digU (yOf (n / 86400) / 100 / 10)) (digU (yOf (n / 86400) / 100 % 10)) (digU (yOf (n / 86400) % 100 / 10)) (digU (yOf (n / 86400) % 100 % 10))
    (digU (n % 86400 / 3600 / 10)) (digU (n % 86400 / 3600 % 10)) (digU (n % 86400 / 60 % 60 / 10)) (digU (n % 86400 / 60 % 60 % 10)) (digU (n % 86400 % 60 / 10)) (digU (n % 86400 % 60 % 10))
  unfold twoS at key
  rw [← key] at hl
  refine hf (fmtS n) rfl ?_ ?_ ?_ ?_ ?_ ?_ ?_ ?_
  · have := congrArg List.length hl
    simpa using this
  · rw [show (fmtS n).extract 5 7 = twoS (dOf (n / 86400)) from bytes_ext (by rw [ext_list hl]; rfl)]
    exact num_two (by omega) (by omega)
  · rw [show (fmtS n).extract 12 14 = twoS (yOf (n / 86400) / 100) from bytes_ext (by rw [ext_list hl]; rfl)]
    exact num_two (by omega) (by omega)
  · rw [show (fmtS n).extract 14 16 = twoS (yOf (n / 86400) % 100) from bytes_ext (by rw [ext_list hl]; rfl)]
    exact num_two (by omega) (by omega)
  · rw [show (fmtS n).extract 17 19 = twoS (n % 86400 / 3600) from bytes_ext (by rw [ext_list hl]; rfl)]
    exact num_two (by omega) (by omega)
  · rw [show (fmtS n).extract 20 22 = twoS (n % 86400 / 60 % 60) from bytes_ext (by rw [ext_list hl]; rfl)]
    exact num_two (by omega) (by omega)
  · rw [show (fmtS n).extract 23 25 = twoS (n % 86400 % 60) from bytes_ext (by rw [ext_list hl]; rfl)]
    exact num_two (by omega) (by omega)
  · rw [show (fmtS n).extract 8 11 = moS (mOf (n / 86400)) from bytes_ext (by rw [ext_list hl, hm]; rfl)]
    exact mo_moS m0 m1
end Go.Proofs.YtphgaommokgfcaaGreatDoor

namespace Go.Proofs.YtphgaommokgfcaaGreatDoor

def sameTo (a b : List Fd) (k : Nat) : Bool := (a.take k).all fun x => decide (allS a x.1 = allS b x.1)
/-- Whether two lists of fields have the same values for each name, in order. -/
def sameS (a b : List Fd) : Bool := decide (a.length = b.length) && a.all fun x => decide (allS a x.1 = allS b x.1)

theorem mem_of_counts {α : Type} [BEq α] [LawfulBEq α] : ∀ (ka kb : List α), (∀ k ∈ ka, ka.count k ≤ kb.count k) → kb.length ≤ ka.length → ∀ y ∈ kb, y ∈ ka
  | [], kb, _, hl, y, hy => by
    have : kb = [] := List.eq_nil_of_length_eq_zero (by simpa using hl)
    subst this; simp at hy
  | k :: ka, kb, hc, hl, y, hy => by
    have hk : k ∈ kb := by
      have := hc k (List.mem_cons_self ..)
      rw [List.count_cons_self] at this
      exact List.count_pos_iff.1 (by omega)
    by_cases e : y = k
    · subst e; exact List.mem_cons_self ..
    · refine List.mem_cons_of_mem _ (mem_of_counts ka (kb.erase k) (fun k' hk' => ?_) ?_ y ((List.mem_erase_of_ne e).2 hy))
      · have := hc k' (List.mem_cons_of_mem _ hk')
        rw [List.count_cons] at this
        rw [List.count_erase]
        by_cases e2 : k == k'
        · simp [e2] at this ⊢; omega
        · simp [e2] at this ⊢; omega
      · rw [List.length_erase_of_mem hk]
        simp only [List.length_cons] at hl
        omega

theorem isN_iff {name : ByteArray} {f : Fd} : isN name f = true ↔ lowS f.1 = lowS name := eqS_iff
theorem allS_key {fs : List Fd} {x y : ByteArray} (h : lowS x = lowS y) : allS fs x = allS fs y := by
  unfold allS
  have : isN x = isN y := by funext f; unfold isN; rw [h]
  rw [this]
def keyS (f : Fd) : List UInt8 := (lowS f.1).data.toList
theorem keyS_iff {f g : Fd} : keyS f = keyS g ↔ lowS f.1 = lowS g.1 := ⟨bytes_ext, fun h => by rw [keyS, keyS, h]⟩
theorem allS_count (fs : List Fd) (x : Fd) : (allS fs x.1).length = (fs.map keyS).count (keyS x) := by
  unfold allS
  rw [List.length_map, List.count, List.countP_map, List.countP_eq_length_filter]
  congr 1
  apply List.filter_congr
  intro f _
  rw [Bool.eq_iff_iff, isN_iff, ← keyS_iff]
  simp

theorem sameS_iff {a b : List Fd} : sameS a b = true ↔ a.length = b.length ∧ ∀ x ∈ a, allS a x.1 = allS b x.1 := by
  simp [sameS, List.all_eq_true]
theorem sameS_half {a b : List Fd} (h : sameS a b = true) : sameS b a = true := by
  rw [sameS_iff] at *
  obtain ⟨hl, ha⟩ := h
  refine ⟨hl.symm, fun y hy => ?_⟩
  have hm := mem_of_counts (a.map keyS) (b.map keyS) (fun k hk => by
    obtain ⟨x, hx, rfl⟩ := List.mem_map.1 hk
    rw [← allS_count, ← allS_count, ha x hx]
    exact Nat.le_refl _) (by simp; omega) (keyS y) (List.mem_map.2 ⟨y, hy, rfl⟩)
  obtain ⟨x, hx, hk⟩ := List.mem_map.1 hm
  rw [allS_key (fs := b) (keyS_iff.1 hk.symm), allS_key (fs := a) (keyS_iff.1 hk.symm)]
  exact (ha x hx).symm
theorem sameS_symm (a b : List Fd) : sameS b a = sameS a b := by
  rw [Bool.eq_iff_iff]
  exact ⟨sameS_half, sameS_half⟩
theorem sameS_refl (a : List Fd) : sameS a a = true := by
  rw [sameS_iff]; exact ⟨rfl, fun _ _ => rfl⟩

theorem sameTo_step {a b : List Fd} {k : Nat} (h : k < a.length) (h1 : sameTo a b k = true) (h2 : allS a a[k].1 = allS b a[k].1) : sameTo a b (k + 1) = true := by
  unfold sameTo at *
  rw [take_step a k h, List.all_append, h1]; simp [h2]
theorem sameS_end {a b : List Fd} (hl : a.length = b.length) (h : sameTo a b a.length = true) : true = sameS a b := by
  unfold sameTo at h
  rw [List.take_of_length_le (Nat.le_refl _)] at h
  unfold sameS
  rw [h, decide_eq_true hl]; rfl
theorem sameS_no {a b : List Fd} {k : Nat} (h : k < a.length) (h2 : allS a a[k].1 ≠ allS b a[k].1) : false = sameS a b := by
  unfold sameS
  have : (a.all fun x => decide (allS a x.1 = allS b x.1)) = false := by
    rw [List.all_eq_false]
    exact ⟨a[k], List.getElem_mem h, by simpa using h2⟩
  rw [this]; simp
theorem sameS_len {a b : List Fd} (h : a.length ≠ b.length) : false = sameS a b := by
  unfold sameS; rw [decide_eq_false h]; rfl
end Go.Proofs.YtphgaommokgfcaaGreatDoor

namespace Go.Proofs.YtphgaommokgfcaaGreatDoor

theorem lowC_low (c : UInt8) : lowC (lowC c) = lowC c := by
  by_cases h : (65 ≤ c && c ≤ 90) = true
  · have h1 : lowC c = c + 32 := by rw [lowC, if_pos h]
    rw [h1, lowC, if_neg]
    simp only [Bool.and_eq_true, decide_eq_true_eq, UInt8.le_iff_toNat_le, UInt8.toNat_add, not_and, Nat.not_le] at *
    intro _
    have : (65 : UInt8).toNat = 65 := rfl
    have : (90 : UInt8).toNat = 90 := rfl
    have : (32 : UInt8).toNat = 32 := rfl
    omega
  · have h1 : lowC c = c := by rw [lowC, if_neg h]
    rw [h1, h1]
theorem lowS_low (s : ByteArray) : lowS (lowS s) = lowS s := by
  apply bytes_ext
  simp [lowS, lowL, lowC_low]
theorem isN_low (name v : ByteArray) (o : ByteArray) : isN o (lowS name, v) = decide (lowS name = lowS o) := by
  rw [Bool.eq_iff_iff, isN_iff, decide_eq_true_iff, lowS_low]
theorem allS_app (fs gs : List Fd) (o : ByteArray) : allS (fs ++ gs) o = allS fs o ++ allS gs o := by simp [allS]
theorem allS_one_same (name v : ByteArray) : allS [(lowS name, v)] name = [v] := by
  simp [allS, isN_low]
theorem allS_one_other {name o : ByteArray} (v : ByteArray) (h : lowS name ≠ lowS o) : allS [(lowS name, v)] o = [] := by
  simp [allS, isN_low, h]
theorem allS_cons (f : Fd) (fs : List Fd) (o : ByteArray) : allS (f :: fs) o = (if isN o f then [f.2] else []) ++ allS fs o := by
  unfold allS
  by_cases h : isN o f = true
  · simp [h]
  · simp [h]
theorem allS_rem_same (fs : List Fd) (name : ByteArray) : allS (remS fs name) name = [] := by
  unfold allS remS
  rw [List.filter_filter]
  have : (fs.filter fun a => isN name a && !isN name a) = [] := by
    rw [List.filter_eq_nil_iff]; intro a _; simp
  rw [this]; rfl
theorem allS_rem_other (fs : List Fd) {name o : ByteArray} (h : lowS name ≠ lowS o) : allS (remS fs name) o = allS fs o := by
  unfold allS remS
  rw [List.filter_filter]
  congr 1
  apply List.filter_congr
  intro f _
  by_cases h1 : isN o f = true
  · have h2 : isN name f = false := by
      rw [Bool.eq_false_iff]; intro h3
      exact h ((isN_iff.1 h3).symm.trans (isN_iff.1 h1))
    simp [h1, h2]
  · simp [h1]
theorem allS_set_same (name value : ByteArray) : ∀ fs : List Fd, allS (setS name value fs) name = [value]
  | [] => allS_one_same name value
  | f :: r => by
    unfold setS
    by_cases h : isN name f = true
    · rw [if_pos h, allS_cons, allS_rem_same, isN_low]; simp
    · rw [if_neg h, allS_cons, if_neg h, allS_set_same name value r]; rfl
theorem allS_set_other {name o : ByteArray} (value : ByteArray) (hne : lowS name ≠ lowS o) : ∀ fs : List Fd, allS (setS name value fs) o = allS fs o
  | [] => by rw [setS, allS_one_other value hne]; rfl
  | f :: r => by
    unfold setS
    by_cases h : isN name f = true
    · have h2 : isN o f = false := by
        rw [Bool.eq_false_iff]; intro h3
        exact hne ((isN_iff.1 h).symm.trans (isN_iff.1 h3))
      rw [if_pos h, allS_cons, allS_cons, allS_rem_other r hne, isN_low, h2]; simp [hne]
    · rw [if_neg h, allS_cons, allS_cons, allS_set_other value hne r]
theorem allS_add_same (fs : List Fd) (name value : ByteArray) : allS (fs ++ [(lowS name, value)]) name = allS fs name ++ [value] := by rw [allS_app, allS_one_same]
theorem allS_add_other (fs : List Fd) {name o : ByteArray} (value : ByteArray) (h : lowS name ≠ lowS o) : allS (fs ++ [(lowS name, value)]) o = allS fs o := by rw [allS_app, allS_one_other value h, List.append_nil]

theorem setS_bsz {B : Nat} {name value : ByteArray} (h1 : name.size ≤ B) (h2 : value.size ≤ B) : ∀ {fs : List Fd}, Bsz B fs → Bsz B (setS name value fs)
  | [], _ => by intro f hf; simp [setS] at hf; subst hf; exact ⟨by rw [lowS_size]; exact h1, h2⟩
  | g :: r, h => by
    have hr : Bsz B r := fun f hf => h f (List.mem_cons_of_mem _ hf)
    unfold setS
    split
    · intro f hf
      rcases List.mem_cons.1 hf with rfl | hf
      · exact ⟨by rw [lowS_size]; exact h1, h2⟩
      · exact hr f ((List.mem_filter.1 hf).1)
    · intro f hf
      rcases List.mem_cons.1 hf with rfl | hf
      · exact h _ (List.mem_cons_self ..)
      · exact setS_bsz h1 h2 hr f hf
theorem addS_bsz {B : Nat} {name value : ByteArray} (h1 : name.size ≤ B) (h2 : value.size ≤ B) {fs : List Fd} (h : Bsz B fs) : Bsz B (fs ++ [(lowS name, value)]) := by
  intro f hf
  rcases List.mem_append.1 hf with hf | hf
  · exact h f hf
  · simp at hf; subst hf; exact ⟨by rw [lowS_size]; exact h1, h2⟩
theorem remS_bsz {B : Nat} {name : ByteArray} {fs : List Fd} (h : Bsz B fs) : Bsz B (remS fs name) := fun f hf => h f ((List.mem_filter.1 hf).1)
end Go.Proofs.YtphgaommokgfcaaGreatDoor

namespace Go.Proofs.YtphgaommokgfcaaGreatDoor

/-! Directives within their bounds. -/
def bdT (n : Int) : Prop := -1 ≤ n ∧ n ≤ 2147483647
def bdD (d : D) : Prop := bdT d.n0 ∧ bdT d.n1 ∧ bdT d.n2 ∧ bdT d.n3 ∧ bdT d.n4 ∧ bdT d.n5
theorem timeV_bd (s : ByteArray) (th : Bool) {bad miss : Int} (h1 : 0 ≤ bad) (h2 : 0 ≤ miss) (h3 : bad ≤ 2147483647) (h4 : miss ≤ 2147483647) : 0 ≤ timeV s th bad miss ∧ timeV s th bad miss ≤ 2147483647 := by
  unfold timeV
  have := numQ_range s
  split
  · split
    · exact this
    · exact ⟨h1, h3⟩
  · exact ⟨h2, h4⟩
theorem lst_bd {a t : Int} (ha : bdT a) (ht : 0 ≤ t ∧ t ≤ 2147483647) : bdT (lst a t) := by
  unfold lst bdT at *
  split
  · omega
  · split <;> omega
theorem stepK_bd {d : D} {t u v : Int} (k : Nat) (h : bdD d) (ht : 0 ≤ t ∧ t ≤ 2147483647) (hu : 0 ≤ u ∧ u ≤ 2147483647) (hv : 0 ≤ v ∧ v ≤ 2147483647) : bdD (stepK d k t u v) := by
  obtain ⟨h0, h1, h2, h3, h4, h5⟩ := h
  unfold stepK
  split
  case h_1 => exact ⟨h0, h1, h2, h3, h4, h5⟩
  case h_2 => exact ⟨h0, h1, h2, h3, h4, h5⟩
  case h_3 => exact ⟨h0, h1, h2, h3, h4, h5⟩
  case h_4 => exact ⟨h0, h1, h2, h3, h4, h5⟩
  case h_5 => exact ⟨h0, h1, h2, h3, h4, h5⟩
  case h_6 => exact ⟨h0, h1, h2, h3, h4, h5⟩
  case h_7 => exact ⟨h0, h1, h2, h3, h4, h5⟩
  case h_8 => exact ⟨lst_bd h0 ht, h1, h2, h3, h4, h5⟩
  case h_9 => exact ⟨h0, lst_bd h1 ht, h2, h3, h4, h5⟩
  case h_10 => exact ⟨h0, h1, lst_bd h2 ht, h3, h4, h5⟩
  case h_11 => exact ⟨h0, h1, h2, lst_bd h3 ht, h4, h5⟩
  case h_12 => exact ⟨h0, h1, h2, h3, lst_bd h4 hu, h5⟩
  case h_13 => exact ⟨h0, h1, h2, h3, h4, by unfold bdT at *; show -1 ≤ max d.n5 v ∧ max d.n5 v ≤ 2147483647; omega⟩
  case h_14 => exact ⟨h0, h1, h2, h3, h4, h5⟩
theorem stepD_bd {d : D} (x : ByteArray) (h : bdD d) : bdD (stepD d x) :=
  stepK_bd _ h (timeV_bd _ _ (by decide) (by decide) (by decide) (by decide)) (timeV_bd _ _ (by decide) (by decide) (by decide) (by decide)) (timeV_bd _ _ (by decide) (by decide) (by decide) (by decide))
theorem fold_bd : ∀ (l : List ByteArray) {d : D}, bdD d → bdD (l.foldl stepD d)
  | [], _, h => h
  | x :: l, _, h => fold_bd l (stepD_bd x h)
theorem stepV_bd {d : D} (v : ByteArray) (h : bdD d) : bdD (stepV d v) := by
  unfold stepV
  split
  · exact fold_bd _ h
  · exact h
theorem vals_bd : ∀ (l : List ByteArray) {d : D}, bdD d → bdD (l.foldl stepV d)
  | [], _, h => h
  | x :: l, _, h => vals_bd l (stepV_bd x h)
theorem none_bd : bdD noneD := by unfold bdD bdT noneD; simp
theorem dirS_bd (vs : List ByteArray) : bdD (dirS vs) := vals_bd vs none_bd
theorem dirS_snoc (vs : List ByteArray) (v : ByteArray) : dirS (vs ++ [v]) = stepV (dirS vs) v := by unfold dirS; rw [List.foldl_append]; rfl

/-! Dates. -/
def dateN : ByteArray := ⟨#[100, 97, 116, 101]⟩
def expN : ByteArray := ⟨#[101, 120, 112, 105, 114, 101, 115]⟩
def lmN : ByteArray := ⟨#[108, 97, 115, 116, 45, 109, 111, 100, 105, 102, 105, 101, 100]⟩
/-- The moment of the one value of a name. -/
def oneP : List ByteArray → Option Int
  | [v] => dateP v
  | _ => none
def dateS (fs : List Fd) (name : ByteArray) : Option Int := oneP (allS fs name)
theorem oneP_no {l : List ByteArray} (h : l.length ≠ 1) : oneP l = none := by
  match l, h with
  | [], _ => rfl
  | [a], h => exact absurd rfl h
  | a :: b :: r, _ => rfl
theorem oneP_bd {l : List ByteArray} {n : Int} (h : oneP l = some n) : 0 ≤ n ∧ n ≤ 253402300799 := by
  match l, h with
  | [v], h => exact dateP_bd h
theorem dateS_bd {fs : List Fd} {name : ByteArray} {n : Int} (h : dateS fs name = some n) : 0 ≤ n ∧ n ≤ 253402300799 := oneP_bd h
def dtV (o : Option Int) : Value := .tuple #[.int .i64 (o.getD 0), .bool o.isSome]

/-! Lifetimes. -/
def negS (st : Int) : Bool := st == 404 || st == 405 || st == 410 || st == 414 || st == 501
def cacL : List Int := [200, 203, 204, 206, 300, 301, 308]
def cacS (st : Int) : Bool := cacL.contains st || negS st
def ccD (fs : List Fd) : D := dirS (allS fs ccN)
theorem ccD_bd (fs : List Fd) : bdD (ccD fs) := dirS_bd _
def exO (a b : Option Int) : Int := match a, b with
  | some x, some y => 1000 * max 0 (y - x)
  | _, _ => 0
def exS (fs : List Fd) : Int := exO (dateS fs dateN) (dateS fs expN)
def gsO (st : Int) (a b : Option Int) : Option Int := match a, b with
  | some x, some y => if cacS st && decide (y < x) then some (min (if negS st then 10000 else 86400000) (1000 * (x - y) / 10)) else none
  | _, _ => none
def gsS (st : Int) (fs : List Fd) : Option Int := gsO st (dateS fs dateN) (dateS fs lmN)
def hasF (fs : List Fd) (name : ByteArray) : Bool := decide (0 < (allS fs name).length)
def xplS (fs : List Fd) : Bool := decide (0 ≤ (ccD fs).n1) || decide (0 ≤ (ccD fs).n0) || hasF fs expN
def ofS (st : Int) (fs : List Fd) : Int × Int :=
  if 0 ≤ (ccD fs).n1 then (1000 * (ccD fs).n1, 1)
  else if 0 ≤ (ccD fs).n0 then (1000 * (ccD fs).n0, 2)
  else if hasF fs expN then (exS fs, 3)
  else match gsS st fs with
    | some n => (n, 4)
    | none => (0, 5)
def alwS (fs : List Fd) : Int × Int :=
  if (ccD fs).b4 || (ccD fs).b1 || decide (0 ≤ (ccD fs).n1) then (0, 0) else (1000 * max 0 (ccD fs).n2, 1000 * max 0 (ccD fs).n3)
def pairV (p : Int × Int) : Value := .tuple #[.int .i64 p.1, .int .i64 p.2]

theorem exO_bd {a b : Option Int} (ha : ∀ x, a = some x → 0 ≤ x ∧ x ≤ 253402300799) (hb : ∀ x, b = some x → 0 ≤ x ∧ x ≤ 253402300799) : 0 ≤ exO a b ∧ exO a b ≤ 253402300799000 := by
  unfold exO
  cases a with
  | none => simp
  | some x =>
    cases b with
    | none => simp
    | some y =>
      have := ha x rfl
      have := hb y rfl
      simp only []
      omega
theorem exS_bd (fs : List Fd) : 0 ≤ exS fs ∧ exS fs ≤ 253402300799000 := exO_bd (fun _ h => dateS_bd h) (fun _ h => dateS_bd h)
theorem gsO_bd {st : Int} {a b : Option Int} {n : Int} (h : gsO st a b = some n) : 0 ≤ n ∧ n ≤ 86400000 ∧ cacS st = true := by
  unfold gsO at h
  cases a with
  | none => cases h
  | some x =>
    cases b with
    | none => cases h
    | some y =>
      simp only [] at h
      split at h
      · rename_i hc
        injection h with h
        simp only [Bool.and_eq_true, decide_eq_true_eq] at hc
        refine ⟨?_, ?_, hc.1⟩
        · rw [← h]; split <;> omega
        · rw [← h]; split <;> omega
      · cases h
/-- Lifetimes and their kinds within their bounds. -/
theorem ofS_bd (st : Int) (fs : List Fd) :
    0 ≤ (ofS st fs).1 ∧ (ofS st fs).1 ≤ 253402300799000 ∧ (((ofS st fs).2 = 1 ∧ (ofS st fs).1 ≤ 2147483647000) ∨ ((ofS st fs).2 = 2 ∧ (ofS st fs).1 ≤ 2147483647000) ∨ ((ofS st fs).2 = 3 ∧ (ofS st fs).1 ≤ 253402300799000) ∨
      ((ofS st fs).2 = 4 ∧ (ofS st fs).1 ≤ 86400000 ∧ cacS st = true) ∨ ((ofS st fs).2 = 5 ∧ (ofS st fs).1 = 0)) := by
  obtain ⟨h0, h1, h2, h3, h4, h5⟩ := ccD_bd fs
  unfold bdT at *
  have hx := exS_bd fs
  unfold ofS
  by_cases g1 : 0 ≤ (ccD fs).n1
  · rw [if_pos g1]; exact ⟨by show 0 ≤ 1000 * (ccD fs).n1; omega, by show 1000 * (ccD fs).n1 ≤ _; omega, .inl ⟨rfl, by show 1000 * (ccD fs).n1 ≤ _; omega⟩⟩
  rw [if_neg g1]
  by_cases g0 : 0 ≤ (ccD fs).n0
  · rw [if_pos g0]; exact ⟨by show 0 ≤ 1000 * (ccD fs).n0; omega, by show 1000 * (ccD fs).n0 ≤ _; omega, .inr (.inl ⟨rfl, by show 1000 * (ccD fs).n0 ≤ _; omega⟩)⟩
  rw [if_neg g0]
  cases he : hasF fs expN
  · rw [if_neg (by decide)]
    cases hg : gsS st fs with
    | none => simp
    | some n =>
      obtain ⟨a, b, c⟩ := gsO_bd hg
      refine ⟨a, by simp only []; omega, .inr (.inr (.inr (.inl ⟨rfl, b, c⟩)))⟩
  · rw [if_pos rfl]
    exact ⟨hx.1, hx.2, .inr (.inr (.inl ⟨rfl, hx.2⟩))⟩
theorem alwS_bd (fs : List Fd) : 0 ≤ (alwS fs).1 ∧ (alwS fs).1 ≤ 2147483647000 ∧ 0 ≤ (alwS fs).2 ∧ (alwS fs).2 ≤ 2147483647000 := by
  obtain ⟨h0, h1, h2, h3, h4, h5⟩ := ccD_bd fs
  unfold bdT at *
  unfold alwS
  split
  · simp
  · simp only []; omega

/-! LifetimeStrict. -/
def mrW : ByteArray := ⟨#[109, 117, 115, 116, 45, 114, 101, 118, 97, 108, 105, 100, 97, 116, 101]⟩
def ncW : ByteArray := ⟨#[110, 111, 45, 99, 97, 99, 104, 101]⟩
def smW : ByteArray := ⟨#[115, 45, 109, 97, 120, 97, 103, 101, 61, 53]⟩
def prW : ByteArray := ⟨#[112, 114, 111, 120, 121, 45, 114, 101, 118, 97, 108, 105, 100, 97, 116, 101]⟩
theorem stepV_one {d : D} {w : ByteArray} (h1 : (partsS w 44).isSome = true) (h2 : itemsS w = [w]) : stepV d w = stepD d w := by
  unfold stepV; rw [if_pos h1, h2]; rfl
theorem step_mr (d : D) : stepV d mrW = { d with b4 := true } := by
  rw [stepV_one (by decide +kernel) (by decide +kernel)]
  unfold stepD; rw [show kindE (lowS (eqName mrW)) = 4 by decide +kernel]; rfl
theorem step_nc (d : D) : stepV d ncW = { d with b1 := true } := by
  rw [stepV_one (by decide +kernel) (by decide +kernel)]
  unfold stepD; rw [show kindE (lowS (eqName ncW)) = 1 by decide +kernel]; rfl
theorem step_pr (d : D) : stepV d prW = { d with b4 := true } := by
  rw [stepV_one (by decide +kernel) (by decide +kernel)]
  unfold stepD; rw [show kindE (lowS (eqName prW)) = 5 by decide +kernel]; rfl
theorem step_sm (d : D) : stepV d smW = { d with n1 := lst d.n1 5 } := by
  rw [stepV_one (by decide +kernel) (by decide +kernel)]
  unfold stepD; rw [show kindE (lowS (eqName smW)) = 8 by decide +kernel, show timeV (argE smW) (thE smW) 0 0 = 5 by decide +kernel]; rfl
theorem low_cc : lowS ccN = ccN := by decide +kernel
theorem ccD_add (fs : List Fd) (v : ByteArray) : ccD (fs ++ [(lowS ccN, v)]) = stepV (ccD fs) v := by
  unfold ccD; rw [allS_add_same, dirS_snoc]
theorem lst_nn (a : Int) : 0 ≤ lst a 5 := by unfold lst; split <;> (try split) <;> omega
theorem strict_mr (fs : List Fd) : alwS (fs ++ [(lowS ccN, mrW)]) = (0, 0) := by unfold alwS; rw [ccD_add, step_mr]; simp
theorem strict_nc (fs : List Fd) : alwS (fs ++ [(lowS ccN, ncW)]) = (0, 0) := by unfold alwS; rw [ccD_add, step_nc]; simp
theorem strict_pr (fs : List Fd) : alwS (fs ++ [(lowS ccN, prW)]) = (0, 0) := by unfold alwS; rw [ccD_add, step_pr]; simp
theorem strict_sm (fs : List Fd) : alwS (fs ++ [(lowS ccN, smW)]) = (0, 0) := by
  unfold alwS; rw [ccD_add, step_sm]
  have := lst_nn (ccD fs).n1
  simp [this]

/-! LifetimeDates. -/
def datF (a b c : Int) : List Fd := [(dateN, fmtS a), (expN, fmtS b), (lmN, fmtS c)]
theorem low_date : lowS dateN = dateN := by decide +kernel
theorem low_exp : lowS expN = expN := by decide +kernel
theorem low_lm : lowS lmN = lmN := by decide +kernel
theorem d_date_exp : lowS dateN ≠ lowS expN := by decide +kernel
theorem d_date_lm : lowS dateN ≠ lowS lmN := by decide +kernel
theorem d_exp_lm : lowS expN ≠ lowS lmN := by decide +kernel
theorem d_cc_date : lowS ccN ≠ lowS dateN := by decide +kernel
theorem d_cc_exp : lowS ccN ≠ lowS expN := by decide +kernel
theorem d_cc_lm : lowS ccN ≠ lowS lmN := by decide +kernel
theorem isN_same (n v : ByteArray) : isN n (n, v) = true := eqS_iff.2 rfl
theorem isN_diff {n o v : ByteArray} (h : lowS n ≠ lowS o) : isN o (n, v) = false := by
  unfold isN; exact eqS_no h
theorem all_cc_dat (a b c : Int) : allS (datF a b c) ccN = [] := by
  unfold datF allS
  simp [isN_diff d_cc_date.symm, isN_diff d_cc_exp.symm, isN_diff d_cc_lm.symm]
theorem all_date_dat (a b c : Int) : allS (datF a b c) dateN = [fmtS a] := by
  unfold datF allS
  simp [isN_same, isN_diff d_date_exp.symm, isN_diff d_date_lm.symm]
theorem all_exp_dat (a b c : Int) : allS (datF a b c) expN = [fmtS b] := by
  unfold datF allS
  simp [isN_same, isN_diff d_date_exp, isN_diff d_exp_lm.symm]
theorem all_lm_dat (a b c : Int) : allS (datF a b c) lmN = [fmtS c] := by
  unfold datF allS
  simp [isN_same, isN_diff d_exp_lm, isN_diff d_date_lm]
theorem ccD_none {fs : List Fd} (h : allS fs ccN = []) : ccD fs = noneD := by unfold ccD; rw [h]; rfl
theorem of_dates {a b c : Int} (st : Int) (ha : 0 ≤ a ∧ a ≤ 253402300799) (hb : 0 ≤ b ∧ b ≤ 253402300799) : ofS st (datF a b c) = (1000 * max 0 (b - a), 3) := by
  unfold ofS
  rw [ccD_none (all_cc_dat a b c), if_neg (by decide), if_neg (by decide)]
  unfold hasF
  rw [all_exp_dat, if_pos (by simp)]
  unfold exS dateS
  rw [all_date_dat, all_exp_dat]
  simp only [oneP, dateP_fmtS ha.1 ha.2, dateP_fmtS hb.1 hb.2, exO]
theorem of_heur {fs : List Fd} {a c : Int} (st : Int) (h1 : allS fs ccN = []) (h2 : allS fs expN = []) (h3 : dateS fs dateN = some a) (h4 : dateS fs lmN = some c) :
    ofS st fs = if cacS st && decide (c < a) then (min (if negS st then 10000 else 86400000) (1000 * (a - c) / 10), 4) else (0, 5) := by
  unfold ofS
  rw [ccD_none h1, if_neg (by decide), if_neg (by decide)]
  unfold hasF
  rw [h2, if_neg (by decide)]
  unfold gsS
  rw [h3, h4]
  simp only [gsO]
  cases cacS st && decide (c < a) <;> simp
theorem of_heur_dat {a b c : Int} (st : Int) (ha : 0 ≤ a ∧ a ≤ 253402300799) (hc : 0 ≤ c ∧ c ≤ 253402300799) :
    ofS st (remS (datF a b c) expN) = if cacS st && decide (c < a) then (min (if negS st then 10000 else 86400000) (1000 * (a - c) / 10), 4) else (0, 5) := by
  refine of_heur st ?_ (allS_rem_same _ _) ?_ ?_
  · rw [allS_rem_other _ d_cc_exp.symm, all_cc_dat]
  · unfold dateS; rw [allS_rem_other _ d_date_exp.symm, all_date_dat]; exact dateP_fmtS ha.1 ha.2
  · unfold dateS; rw [allS_rem_other _ d_exp_lm, all_lm_dat]; exact dateP_fmtS hc.1 hc.2
theorem neg_cac {st : Int} (h : cacS st = true) : negS st = decide (400 ≤ st) := by
  unfold cacS cacL at h
  simp only [Bool.or_eq_true, List.contains_eq_mem, List.mem_cons, List.not_mem_nil, or_false, decide_eq_true_eq] at h
  unfold negS at *
  rcases h with h | h
  · rcases h with h | h | h | h | h | h | h <;> subst h <;> rfl
  · simp only [Bool.or_eq_true, beq_iff_eq] at h
    rcases h with (((h | h) | h) | h) | h <;> subst h <;> rfl

/-! LifetimeBroken. -/
theorem of_no_exp {fs : List Fd} (st : Int) (h1 : allS fs ccN = []) (h2 : hasF fs expN = true) (h3 : dateS fs dateN = none ∨ dateS fs expN = none) : ofS st fs = (0, 3) := by
  unfold ofS
  rw [ccD_none h1, if_neg (by decide), if_neg (by decide), if_pos h2]
  unfold exS
  rcases h3 with h | h
  · rw [h]; rfl
  · rw [h]; cases dateS fs dateN <;> rfl
theorem of_no_heur {fs : List Fd} (st : Int) (h1 : allS fs ccN = []) (h2 : allS fs expN = []) (h3 : dateS fs dateN = none ∨ dateS fs lmN = none) : ofS st fs = (0, 5) := by
  unfold ofS
  rw [ccD_none h1, if_neg (by decide), if_neg (by decide)]
  unfold hasF
  rw [h2, if_neg (by decide)]
  unfold gsS
  rcases h3 with h | h
  · rw [h]; rfl
  · rw [h]; cases dateS fs dateN <;> rfl
end Go.Proofs.YtphgaommokgfcaaGreatDoor

namespace Go.Proofs.YtphgaommokgfcaaGreatDoor
open Go.RowKit

theorem any_step (p : UInt8 → Bool) {s : ByteArray} {k : Nat} (h : k < s.size) (h1 : (s.data.toList.take k).any p = false) (h2 : p s[k] = false) : (s.data.toList.take (k + 1)).any p = false := by
  rw [take_step _ k (by simpa using h), List.any_append, h1]
  have h2 : p s.data[k] = false := h2
  simpa using h2
theorem any_yes (p : UInt8 → Bool) {s : ByteArray} {k : Nat} (h : k < s.size) (h2 : p s[k] = true) : true = s.data.toList.any p := by
  have h2 : p s.data[k] = true := h2
  symm
  rw [List.any_eq_true]
  exact ⟨s.data[k], by simp, h2⟩
theorem any_end (p : UInt8 → Bool) {s : ByteArray} (h1 : (s.data.toList.take s.size).any p = false) : false = s.data.toList.any p := by
  rw [List.take_of_length_le (by simp)] at h1
  exact h1.symm
/-- May a sign not be in a tag? -/
def badT (c : UInt8) : Bool := decide ((c.toNat : Int) < 33) || ((c.toNat : Int) == 34) || ((c.toNat : Int) == 127)
theorem badT_yes {c : UInt8} (h : (c.toNat : Int) < 33 ∨ (c.toNat : Int) = 34 ∨ (c.toNat : Int) = 127) : badT c = true := by
  unfold badT; simp only [Bool.or_eq_true, decide_eq_true_eq, beq_iff_eq]; omega
theorem badT_no {c : UInt8} (h : ¬ ((c.toNat : Int) < 33 ∨ (c.toNat : Int) = 34 ∨ (c.toNat : Int) = 127)) : badT c = false := by
  rw [Bool.eq_false_iff]; unfold badT; simp only [ne_eq, Bool.or_eq_true, decide_eq_true_eq, beq_iff_eq]; omega
/-- May a string be the text of a tag? -/
def rightS (s : ByteArray) : Bool := !s.data.toList.any badT
def wkP (s : ByteArray) : Bool := Lib.hasPrefix s.data.toList [87, 47]
def wkR (s : ByteArray) : ByteArray := ⟨(Lib.trimPrefix s.data.toList [87, 47]).toArray⟩
/-- The text between quotes, if it is that of a tag. -/
def txtS (r : ByteArray) : Option ByteArray :=
  if h : r.size < 2 then none else if (r[0]'(by omega)) = 34 ∧ (r[r.size - 1]'(by omega)) = 34 ∧ rightS (r.extract 1 (r.size - 1)) = true then some (r.extract 1 (r.size - 1)) else none
theorem txt_short {r : ByteArray} (h : r.size < 2) : txtS r = none := by unfold txtS; rw [dif_pos h]
theorem txt_at {r : ByteArray} (h : ¬ r.size < 2) : txtS r = if (r[0]'(by omega)) = 34 ∧ (r[r.size - 1]'(by omega)) = 34 ∧ rightS (r.extract 1 (r.size - 1)) = true then some (r.extract 1 (r.size - 1)) else none := by unfold txtS; rw [dif_neg h]
theorem i34 {c : UInt8} (h : ¬ (c.toNat : Int) = 34) : ¬ c = 34 := fun e => h (by rw [e]; rfl)
theorem txt_no0 {r : ByteArray} (h : ¬ r.size < 2) (h0 : ¬ ((r[0]'(by omega)).toNat : Int) = 34) : txtS r = none := by rw [txt_at h, if_neg (fun e => i34 h0 e.1)]
theorem txt_no1 {r : ByteArray} (h : ¬ r.size < 2) (h0 : ¬ ((r[r.size - 1]'(by omega)).toNat : Int) = 34) : txtS r = none := by rw [txt_at h, if_neg (fun e => i34 h0 e.2.1)]
theorem txt_no2 {r : ByteArray} (h : ¬ r.size < 2) (h0 : rightS (r.extract 1 (r.size - 1)) = false) : txtS r = none := by rw [txt_at h, if_neg (fun e => by rw [h0] at e; exact absurd e.2.2 (by simp))]
theorem u8of {c : UInt8} (h : (c.toNat : Int) = 34) : c = 34 := UInt8.toNat_inj.1 (by show c.toNat = 34; omega)
theorem txt_yes {r : ByteArray} (h : ¬ r.size < 2) (h0 : ((r[0]'(by omega)).toNat : Int) = 34) (h1 : ((r[r.size - 1]'(by omega)).toNat : Int) = 34) (h2 : rightS (r.extract 1 (r.size - 1)) = true) : txtS r = some (r.extract 1 (r.size - 1)) := by
  rw [txt_at h, if_pos ⟨u8of h0, u8of h1, h2⟩]
/-- The tag of a text. -/
def tagS (s : ByteArray) : Option (Bool × ByteArray) := (txtS (wkR s)).map fun t => (wkP s, t)
theorem tag_none {s : ByteArray} (h : txtS (wkR s) = none) : tagS s = none := by unfold tagS; rw [h]; rfl
theorem tag_some {s t : ByteArray} (h : txtS (wkR s) = some t) : tagS s = some (wkP s, t) := by unfold tagS; rw [h]; rfl
def tagV (o : Option (Bool × ByteArray)) : Value := match o with | some t => .agg #[.bool t.1, .string t.2] | none => .agg #[.bool false, .string ⟨#[]⟩]
def tagE (o : Option (Bool × ByteArray)) : Nat := if o.isSome then 0 else 2
theorem wkR_size (s : ByteArray) : (wkR s).size ≤ s.size := by
  show (Lib.trimPrefix s.data.toList [87, 47]).toArray.size ≤ s.data.size
  unfold Lib.trimPrefix
  split
  · simp
  · simp


set_option maxHeartbeats 1000000 in
theorem val_plain (s : ByteArray) (w : World) (hs : s.size ≤ 4611686018427387904) :
    Calls Tryz.prog 64 #[.string s] w fun e w' => e = .returned (.bool (rightS s)) ∧ w' = w := by
  go_enter Tryz.func64, Tryz.ntmps64
  go_wp2_with fail
  go_loop [6] (fun i => ∃ k, k ≤ s.size ∧ i = .int .i64 (k : Nat) ∧ (s.data.toList.take k).any badT = false) (fun i => s.size - (intOf i).toNat)
  case atStart => exact ⟨0, Nat.zero_le _, rfl, rfl⟩
  case round =>
    obtain ⟨k, hk, rfl, hall⟩ := hrel
    by_cases hlt : k < s.size
    · have Hst := Lib.hid (any_step badT hlt hall); clear hall
      have Hyes := Lib.hid (any_yes badT hlt)
      have Hcy := Lib.hid (@badT_yes s[k])
      have Hcn := Lib.hid (@badT_no s[k])
      go_wp2_with fail
      all_goals first
        | (have hc := Hcn.out (by (try simp only [beq_iff_eq, beq_eq_false_iff_ne, ne_eq] at *); omega)
           go_round
           case rel => exact ⟨k + 1, by omega, by go_num, Hst.out hc⟩
           case measure => simp [intOf]; omega)
        | (have hc := Hcy.out (by (try simp only [beq_iff_eq] at *); omega)
           go_ret; exact ⟨congrArg (fun x => Ending.returned (.bool x)) (by unfold rightS; rw [← Hyes.out hc]; rfl), rfl⟩)
    · obtain rfl : k = s.size := by omega
      have He := Lib.hid (any_end badT hall); clear hall
      go_wp2_with fail
      all_goals (go_ret; exact ⟨congrArg (fun x => Ending.returned (.bool x)) (by unfold rightS; rw [← He.out]; rfl), rfl⟩)


set_option maxHeartbeats 1000000 in
set_option maxRecDepth 100000 in
theorem val_ReadTag (s : ByteArray) (w : World) (hs : s.size ≤ 1048576) :
    Calls Tryz.prog 47 #[.string s] w fun e w' => e = .returned (.tuple #[tagV (tagS s), errV (tagE (tagS s))]) ∧ Ext w w' := by
  have hrs := wkR_size s
  obtain ⟨R, hR0⟩ : ∃ R, wkR s = R := ⟨_, rfl⟩
  rw [hR0] at hrs
  have hR := Lib.hid hR0; clear hR0
  by_cases h2 : R.size < 2
  · have HN := Lib.hid (tag_none (s := s) (by rw [hR.out]; exact txt_short h2))
    go_enter Tryz.func47, Tryz.ntmps47
    go_wp2_with fail
    refine (Tryz.strings_CutPrefix s ⟨#[87, 47]⟩ _).mono ?_; rintro e w0 ⟨rfl, rfl⟩
    rw [show (⟨(Lib.trimPrefix s.data.toList (⟨#[87, 47]⟩ : ByteArray).data.toList).toArray⟩ : ByteArray) = R from hR.out, show Lib.hasPrefix s.data.toList (⟨#[87, 47]⟩ : ByteArray).data.toList = wkP s from rfl]
    go_wp2_with fail
    (exact bodyPost_ret (v := .tuple #[.agg #[.bool false, .string ⟨#[]⟩], .iface 66 (.int .i64 2)]) (by simp [results, Tryz.results47, go_sem]) rfl ⟨by rw [HN.out]; rfl, ((Ext.refl w).alloc _).alloc _⟩)
  by_cases h0 : ((R[0]'(by omega)).toNat : Int) = 34
  case neg =>
    have HN := Lib.hid (tag_none (s := s) (by rw [hR.out]; exact txt_no0 h2 h0))
    have hq0 : (((R[0]'(by omega)).toNat : Int) != 34) = true := by simp [h0]
    go_enter Tryz.func47, Tryz.ntmps47
    go_wp2_with fail
    refine (Tryz.strings_CutPrefix s ⟨#[87, 47]⟩ _).mono ?_; rintro e w0 ⟨rfl, rfl⟩
    rw [show (⟨(Lib.trimPrefix s.data.toList (⟨#[87, 47]⟩ : ByteArray).data.toList).toArray⟩ : ByteArray) = R from hR.out, show Lib.hasPrefix s.data.toList (⟨#[87, 47]⟩ : ByteArray).data.toList = wkP s from rfl]
    go_wp2_with fail
    (exact bodyPost_ret (v := .tuple #[.agg #[.bool false, .string ⟨#[]⟩], .iface 66 (.int .i64 2)]) (by simp [results, Tryz.results47, go_sem]) rfl ⟨by rw [HN.out]; rfl, ((Ext.refl w).alloc _).alloc _⟩)
  have hq0 : (((R[0]'(by omega)).toNat : Int) != 34) = false := by simp [h0]
  by_cases h1 : ((R[R.size - 1]'(by omega)).toNat : Int) = 34
  case neg =>
    have HN := Lib.hid (tag_none (s := s) (by rw [hR.out]; exact txt_no1 h2 h1))
    have hq1 : (((R[R.size - 1]'(by omega)).toNat : Int) != 34) = true := by simp [h1]
    go_enter Tryz.func47, Tryz.ntmps47
    go_wp2_with fail
    refine (Tryz.strings_CutPrefix s ⟨#[87, 47]⟩ _).mono ?_; rintro e w0 ⟨rfl, rfl⟩
    rw [show (⟨(Lib.trimPrefix s.data.toList (⟨#[87, 47]⟩ : ByteArray).data.toList).toArray⟩ : ByteArray) = R from hR.out, show Lib.hasPrefix s.data.toList (⟨#[87, 47]⟩ : ByteArray).data.toList = wkP s from rfl]
    go_wp2_with fail
    (exact bodyPost_ret (v := .tuple #[.agg #[.bool false, .string ⟨#[]⟩], .iface 66 (.int .i64 2)]) (by simp [results, Tryz.results47, go_sem]) rfl ⟨by rw [HN.out]; rfl, ((Ext.refl w).alloc _).alloc _⟩)
  have hq1 : (((R[R.size - 1]'(by omega)).toNat : Int) != 34) = false := by simp [h1]
  cases hr : rightS (R.extract 1 (R.size - 1))
  · have HN := Lib.hid (tag_none (s := s) (by rw [hR.out]; exact txt_no2 h2 hr))
    go_enter Tryz.func47, Tryz.ntmps47
    go_wp2_with fail
    refine (Tryz.strings_CutPrefix s ⟨#[87, 47]⟩ _).mono ?_; rintro e w0 ⟨rfl, rfl⟩
    rw [show (⟨(Lib.trimPrefix s.data.toList (⟨#[87, 47]⟩ : ByteArray).data.toList).toArray⟩ : ByteArray) = R from hR.out, show Lib.hasPrefix s.data.toList (⟨#[87, 47]⟩ : ByteArray).data.toList = wkP s from rfl]
    go_wp2_with fail
    refine (val_plain _ _ (by rw [ByteArray.size_extract]; omega)).mono ?_; rintro e w1 ⟨rfl, rfl⟩
    rw [hr]
    go_wp2_with fail
    (exact bodyPost_ret (v := .tuple #[.agg #[.bool false, .string ⟨#[]⟩], .iface 66 (.int .i64 2)]) (by simp [results, Tryz.results47, go_sem]) rfl ⟨by rw [HN.out]; rfl, ((Ext.refl w).alloc _).alloc _⟩)
  · have HY := Lib.hid (tag_some (s := s) (by rw [hR.out]; exact txt_yes h2 h0 h1 hr))
    go_enter Tryz.func47, Tryz.ntmps47
    go_wp2_with fail
    refine (Tryz.strings_CutPrefix s ⟨#[87, 47]⟩ _).mono ?_; rintro e w0 ⟨rfl, rfl⟩
    rw [show (⟨(Lib.trimPrefix s.data.toList (⟨#[87, 47]⟩ : ByteArray).data.toList).toArray⟩ : ByteArray) = R from hR.out, show Lib.hasPrefix s.data.toList (⟨#[87, 47]⟩ : ByteArray).data.toList = wkP s from rfl]
    go_wp2_with fail
    refine (val_plain _ _ (by rw [ByteArray.size_extract]; omega)).mono ?_; rintro e w1 ⟨rfl, rfl⟩
    rw [hr]
    go_wp2_with fail
    (exact bodyPost_ret (v := .tuple #[.agg #[.bool (wkP s), .string (R.extract 1 (R.size - 1))], .nilIface]) (by simp [results, Tryz.results47, go_sem]) rfl ⟨by rw [HY.out]; rfl, ((Ext.refl w).alloc _).alloc _⟩)


theorem wk_no {s : ByteArray} (h : wkP s = false) : wkR s = s ∧ (s.size < 2 ∨ (2 ≤ s.size ∧ ((s.extract 0 2).toList == [87, 47]) = false)) := by
  have hp : wkR s = s := by
    unfold wkR Lib.trimPrefix
    unfold wkP at h
    rw [h]; exact bytes_ext (by simp)
  refine ⟨hp, ?_⟩
  rcases Nat.lt_or_ge s.size 2 with h2 | h2
  · exact .inl h2
  · refine .inr ⟨h2, ?_⟩
    rw [ByteArray.toList_eq, ext_take]
    unfold wkP Lib.hasPrefix at h
    obtain ⟨⟨l⟩⟩ := s
    match l, h2 with
    | a :: b :: r, _ =>
      simp only [List.isPrefixOf, List.take_succ_cons, List.take_zero, Bool.and_true] at h ⊢
      rw [Bool.eq_false_iff] at h ⊢
      intro e
      rw [beq_iff_eq] at e
      injection e with e1 e2
      injection e2 with e2 _
      apply h
      rw [e1, e2]; rfl
theorem wk_yes {s : ByteArray} (h : wkP s = true) : 2 ≤ s.size ∧ ((s.extract 0 2).toList == [87, 47]) = true ∧ wkR s = s.extract 2 s.size := by
  unfold wkP Lib.hasPrefix at h
  have h2 := List.isPrefixOf_iff_prefix.1 h
  obtain ⟨t, ht⟩ := h2
  have hl := congrArg List.length ht
  simp only [List.length_append, List.length_cons, List.length_nil, Array.length_toList] at hl
  have hs2 : 2 ≤ s.size := by show 2 ≤ s.data.size; omega
  refine ⟨hs2, ?_, ?_⟩
  · rw [ByteArray.toList_eq, ext_take, ← ht]; rfl
  · unfold wkR Lib.trimPrefix Lib.hasPrefix
    rw [h]
    exact bytes_ext (by rw [ext_drop]; simp)


end Go.Proofs.YtphgaommokgfcaaGreatDoor

namespace Go.Proofs.YtphgaommokgfcaaGreatDoor
open Go.RowKit

theorem assert_num (v : Value) (w : World) : (Instr.typeAssert (.iface 66 v) 33 66 true).run Tryz.prog w = .ok (.tuple #[v, .bool true]) w := by
  simp [Instr.typeAssert, run_underlying Tryz.underlying66]

set_option maxHeartbeats 1000000 in
theorem base_Num (n : Nat) (hn : n < 1000) (w : World) :
    Calls Tryz.prog 12 #[errV n] w fun e w' => e = .returned (.int .i64 (n : Nat)) ∧ Ext w w' := by
  rcases Nat.eq_zero_or_pos n with h0 | h0
  · subst h0
    rw [show errV 0 = .nilIface from rfl]
    go_enter Tryz.func12, Tryz.ntmps12
    go_wp2_with fail
    go_ret
    exact ⟨rfl, Ext.refl _⟩
  · rw [show errV n = .iface 66 (.int .i64 n) by unfold errV; rw [if_neg (by omega)]]
    go_enter Tryz.func12, Tryz.ntmps12
    have ha := assert_num (.int .i64 n)
    go_wp2_with fail
    go_ret
    exact ⟨rfl, Ext.refl _⟩
end Go.Proofs.YtphgaommokgfcaaGreatDoor

namespace Go.Proofs.YtphgaommokgfcaaGreatDoor
open Go.RowKit

def qS : ByteArray := ⟨#[34]⟩
def wqS : ByteArray := ⟨#[87, 47, 34]⟩
/-- The text of a tag. -/
def wrS (wk : Bool) (t : ByteArray) : ByteArray := (if wk then wqS else qS) ++ t ++ qS
def wrO (wk : Bool) (t : ByteArray) : Option ByteArray := if rightS t then some (wrS wk t) else none
def eqT (a b : ByteArray) : Bool := a.toList == b.toList

set_option maxHeartbeats 1000000 in
theorem val_Weak (wa wb : Bool) (a b : ByteArray) (w : World) :
    Calls Tryz.prog 28 #[.agg #[.bool wa, .string a], .agg #[.bool wb, .string b]] w fun e w' => e = .returned (.bool (eqT a b)) ∧ Ext w w' := by
  have he := Lib.hid (show eqT a b = (a.toList == b.toList) from rfl)
  generalize eqT a b = q at *
  cases wa <;> cases wb <;> cases q
  all_goals
    have he2 := he.out.symm
    go_enter Tryz.func28, Tryz.ntmps28
    go_wp2_with fail
    go_ret
    exact ⟨rfl, ((Ext.refl w).alloc _).alloc _⟩


def wrE (o : Option ByteArray) : Nat := if o.isSome then 0 else 2

end Go.Proofs.YtphgaommokgfcaaGreatDoor

namespace Go.Proofs.YtphgaommokgfcaaGreatDoor
open Go.RowKit

theorem infoFld : (Tryz.prog.info? 45).map (fun i => (i.zero, i.size, i.bytes)) = some (some (.agg #[.string ⟨#[]⟩, .string ⟨#[]⟩]), 2, 32) := by kernel_rfl
theorem own_lit (w : World) (cs : Array Value) (e : TypeId) {b : Nat} (hb : b = w.heap.size) (k n : Nat) (h : cs.size = n * k) (hn : n ≤ maxLen) :
    (w.alloc (.cells cs e)).ownsRow w.heap.size e k (.slice (some ⟨b, 0, none⟩) n n) n cs.toList := by
  subst hb
  exact ⟨by simpa using h, .inr ⟨w.heap.size, n, cs, rfl, Nat.le_refl _, heap_alloc_new w _, Nat.le_refl _, hn, h, List.take_of_length_le (by rw [Array.length_toList, h]; exact Nat.le_refl _)⟩⟩
theorem fmap_step {α β : Type} (g : α → List β) (l : List α) (k : Nat) (h : k < l.length) : (l.take (k + 1)).flatMap g = (l.take k).flatMap g ++ g l[k] := by
  rw [take_step l k h, List.flatMap_append, List.flatMap_singleton]
theorem map_step {α β : Type} (g : α → β) (l : List α) (k : Nat) (h : k < l.length) : (l.take (k + 1)).map g = (l.take k).map g ++ [g l[k]] := by
  rw [take_step l k h, List.map_append]; rfl

theorem cells_snoc (X : List ByteArray) (x : ByteArray) : strCells (X ++ [x]) = strCells X ++ [.string x] := List.map_append
theorem notB {b : Bool} (h : b = true) : (!b) = false := by rw [h]; rfl
theorem notB' {b : Bool} (h : b = false) : (!b) = true := by rw [h]; rfl

/-- An own row lies apart from a slice of n that is read. -/
def Sep (A : Option Addr) (n : Nat) (v : Value) : Prop := 0 < n → ∀ b o, A = some ⟨b, o, none⟩ → v.ownBlock ≠ some b
theorem Sep.of_own {w w' : World} {base e k m e' k' n c : Nat} {v : Value} {xs ys : List Value} {A : Option Addr} (hv : w.ownsRow base e k v m xs) (hi : w'.ownsRow w.heap.size e' k' (.slice A n c) n ys) : Sep A n v := by
  intro hn b o hA he
  have hlt := (hv.lt b he).2
  rcases hi.2 with ⟨hh, h0⟩ | ⟨g, cap, cur, hh, hb, _⟩
  · omega
  · injection hh with h1
    rw [hA] at h1
    injection h1 with h1
    injection h1 with h1
    omega
theorem Rd.sep {w w' : World} {n : Nat} {A : Option Addr} {ss : List ByteArray} {v : Value} (h : RdS w A n ss) (hg : w.grownBy w' v.ownBlock) (hs : Sep A n v) : RdS w' A n ss := by
  refine ⟨h.1, fun hp => ?_⟩
  obtain ⟨b, o, e, hc⟩ := h.2 hp
  have hn : 0 < n := by have := h.1; omega
  refine ⟨b, o, e, fun j u hu => ?_⟩
  have h1 := hc j u hu
  have hb : b < w.heap.size := World.block_lt_of_cell? w _ h1
  exact (World.cell?_of_block (hg.block b hb (fun hh => hs hn b o e hh.symm))).trans h1
theorem Sep.next {w : World} {n : Nat} {A : Option Addr} {ss : List ByteArray} {v v' : Value} (h : RdS w A n ss) (hs : Sep A n v) (hv : v'.ownBlock = v.ownBlock ∨ v'.ownBlock = some w.heap.size) : Sep A n v' := by
  intro hn b o e
  rcases hv with hv | hv
  · rw [hv]; exact hs hn b o e
  · obtain ⟨b', o', e', hc⟩ := h.2 (by have := h.1; omega)
    rw [e] at e'
    injection e' with e'
    injection e' with e1 e2
    have hl := h.1
    have hb : b' < w.heap.size := World.block_lt_of_cell? w _ (hc 0 _ (List.getElem?_eq_getElem (by omega)))
    rw [hv]
    intro hh
    injection hh with hh
    omega

/-- Append onto an own row, with where the new row lies. -/
theorem wpList_appAt {P : Program} (w : World) {ops : Array Oper} {rest : List Oper} {o : Oper} {a : Act} {Q : Exit → Act → World → Prop} (hgd : o.guard = none) (s x : Operand) (t : TypeId)
    (ho : o.op = .call { callee := .builtin .append, args := #[s, x], argTypes := #[t, t] })
    (w0 : World) (e : TypeId) (z : Value) (size bytes : Nat) (ht : P.underlying t = some (.slice e))
    (hinfo : (P.info? e).map (fun i => (i.zero, i.size, i.bytes)) = some (some z, size, bytes)) (hzs : z.cells.size = size) (hsz : 0 < size)
    (v : Value) (n : Nat) (xs : List Value) (hs : a.eval s = v) (hown : w.ownsRow w0.heap.size e size v n xs)
    (ad : Addr) (m c : Nat) (news : List Value) (hx : a.eval x = .slice (some ad) m c) (hl : news.length = m * size) (hnews : ∀ j u, news[j]? = some u → w.cell? (ad.add j) = some u) (h1 : ∀ u ∈ news, u.oneCell' = true)
    (hb : Ext w0 w) (hbytes : (n + m) * bytes ≤ 140737488355328) (hby0 : 0 < bytes)
    (h : ∀ A' c' w', w'.ownsRow w0.heap.size e size (.slice A' (n + m) c') (n + m) (xs ++ news) → Ext w0 w' → n + m ≤ c' → w.grownBy w' v.ownBlock → ((Value.slice A' (n + m) c').ownBlock = v.ownBlock ∨ (Value.slice A' (n + m) c').ownBlock = some w.heap.size) → wpList P ops Q rest (a.put o.dst (.slice A' (n + m) c')) w') : wpList P ops Q (o :: rest) a w := by
  have h63 : n + m ≤ maxLen := by
    have : (n + m) * 1 ≤ (n + m) * bytes := Nat.mul_le_mul_left _ hby0
    simp only [maxLen]; omega
  obtain ⟨i, hi, hz, hsize, hby⟩ := info_parts hinfo
  refine wpList_append_own_at w hgd s x t ho w0.heap.size e i z size bytes ht hi hz hsize hby hzs hsz v n xs hs hown ad m c news hx hl hnews h1 h63 hbytes hb.size ?_
  intro v' w' h2 h3 _ h5
  obtain ⟨A', c', rfl, hle⟩ := own_shape h2
  exact h A' c' w' h2 (hb.grown h3 (fun k hk => (hown.lt k hk).1)) hle h3 h5
end Go.Proofs.YtphgaommokgfcaaGreatDoor

namespace Go.Proofs.YtphgaommokgfcaaGreatDoor
open Go.RowKit


theorem small_hi {fs : List Fd} (h : 70 < fs.length) : false = smallS fs := by unfold smallS; rw [decide_eq_false (by omega)]; simp
theorem small_lo {fs : List Fd} {b : Bool} (h : fs.length ≤ 70) (hb : decide ((sumF fs : Int) ≤ 6000) = b) : b = smallS fs := by
  unfold smallS; rw [decide_eq_true h, ← hb, Bool.true_and]; apply decide_eq_decide.2; omega

set_option maxHeartbeats 1000000 in
theorem law_Fields (A : Option Addr) (n c : Nat) (fs : List Fd) (w : World) (hf : RdF w A n fs) (hn : n ≤ 1073741824) :
    Calls Tryz.prog 10 #[.slice A n c] w fun e w' => ∃ A' c', e = .returned (.slice A' n c') ∧ RdF w' A' n fs ∧ n ≤ c' ∧ Ext w w' ∧ w'.ownsRow w.heap.size 45 2 (.slice A' n c') n (fldCells fs) := by
  have hl := hf.lenF
  go_enter Tryz.func10, Tryz.ntmps10
  have Hl := Lib.hid hl; clear hl
  go_wp2_with fail
  go_loopw [3, 8] (fun v i wr => ∃ k A' c', k ≤ n ∧ i = .int .i64 (k : Nat) ∧ v = .slice A' k c' ∧ wr.ownsRow w.heap.size 45 2 (.slice A' k c') k (fldCells (fs.take k)) ∧ k ≤ c' ∧ Ext w wr) (fun _ i _ => n - (intOf i).toNat)
  case atStart => exact ⟨0, none, 0, Nat.zero_le _, rfl, rfl, World.ownsRow_nil _ _ _ _, Nat.le_refl _, Ext.refl _⟩
  case round =>
    obtain ⟨k, A', c', hk, rfl, rfl, hown, hmc, hbr⟩ := hrel
    by_cases hlt : k < n
    · have hlt' : k < fs.length := by have := Hl.out; omega
      obtain ⟨b, o, rfl, hc0, hc1⟩ := (hf.ext hbr).atF hlt'
      have Hst := Lib.hid (take_step fs k hlt')
      generalize hx : fs[k] = x at *
      obtain ⟨nm, vl⟩ := x
      clear hx
      go_wp2_with (first
          | (at_builtin; refine wpList_app _ rfl (.tmp 12) (.tmp 18) 31 rfl w 45 _ 2 32 Tryz.underlying31 infoFld rfl (by decide) _ _ _ rfl ((hown.alloc _).alloc _) _ 1 1 (fldCells [(nm, vl)]) rfl (Rd.two _ _ _ _ (by simp)) (fldCells_one _) ((hbr.alloc _).alloc _) (by omega) (by decide) ?_; intro A2 c2 w3 hown3 hb3 hle3))
      go_roundw
      case rel => exact ⟨k + 1, A2, c2, by omega, by go_num, rfl, by rw [Hst.out, fldCells_app]; exact hown3, hle3, hb3⟩
      case measure => simp [intOf]; omega
    · obtain rfl : k = n := by omega
      have he : fs.take k = fs := List.take_of_length_le (by have := Hl.out; omega)
      rw [he] at hown
      go_wp2
      go_ret
      exact ⟨_, _, rfl, Rd.of_own hown, hmc, hbr, hown⟩

set_option maxHeartbeats 1000000 in
theorem base_Texts (A A2 : Option Addr) (n c n2 c2 : Nat) (xs ys : List ByteArray) (w : World) (hx : RdS w A n xs) (hy : RdS w A2 n2 ys) (hn : n ≤ 9223372036854775807) (hn2 : n2 ≤ 9223372036854775807) :
    Calls Tryz.prog 29 #[.slice A n c, .slice A2 n2 c2] w fun e w' => e = .returned (.bool (decide (xs = ys))) ∧ Ext w w' := by
  have hl := hx.lenS
  have hl2 := hy.lenS
  by_cases hnn : n = n2
  · subst hnn
    go_enter Tryz.func29, Tryz.ntmps29
    have Hl := Lib.hid hl; clear hl
    have Hl2 := Lib.hid hl2; clear hl2
    go_wp2_with fail
    go_loopw [13] (fun i wr => ∃ k, k ≤ n ∧ i = .int .i64 (k : Nat) ∧ xs.take k = ys.take k ∧ Ext w wr) (fun i _ => n - (intOf i).toNat)
    case atStart => exact ⟨0, Nat.zero_le _, rfl, rfl, Ext.refl _⟩
    case round =>
      obtain ⟨k, hk, rfl, heq, hbr⟩ := hrel
      have Heq := Lib.hid heq; clear heq
      by_cases hlt : k < n
      · have hlt1 : k < xs.length := by have := Hl.out; omega
        have hlt2 : k < ys.length := by have := Hl2.out; omega
        obtain ⟨b, o, rfl, hc0⟩ := (hx.ext hbr).atS hlt1
        obtain ⟨b2, o2, rfl, hc1⟩ := (hy.ext hbr).atS hlt2
        by_cases he : xs[k] = ys[k]
        · have Hst := Lib.hid (take_eq_step hlt1 hlt2 Heq.out he)
          have hd : (xs[k].toList == ys[k].toList) = true := eqS_iff.2 he
          clear he
          generalize xs[k] = x at *
          generalize ys[k] = y at *
          have hk2 : (k : Int) < (n : Int) := by omega
          go_wp2_with fail
          go_quiet (fail)
          go_wp2
          go_roundw
          case rel => exact ⟨k + 1, by omega, by go_num, Hst.out, hbr.drewN _⟩
          case measure => simp [intOf]; omega
        · have Hst := Lib.hid (ne_of_at hlt1 hlt2 he)
          have hd : (xs[k].toList == ys[k].toList) = false := by
            rw [Bool.eq_false_iff]; exact fun h => he (eqS_iff.1 h)
          clear he
          generalize xs[k] = x at *
          generalize ys[k] = y at *
          have hk2 : (k : Int) < (n : Int) := by omega
          go_wp2_with fail
          go_quiet (fail)
          go_wp2
          go_ret
          exact ⟨congrArg (fun x => Ending.returned (.bool x)) (decide_eq_false Hst.out).symm, hbr.drewN _⟩
      · obtain rfl : k = n := by omega
        have he : xs = ys := by
          have := Heq.out
          rwa [List.take_of_length_le (by have := Hl.out; omega), List.take_of_length_le (by have := Hl2.out; omega)] at this
        go_wp2
        go_ret
        exact ⟨congrArg (fun x => Ending.returned (.bool x)) (decide_eq_true he).symm, hbr⟩
  · have he : xs ≠ ys := by intro h; subst h; omega
    go_enter Tryz.func29, Tryz.ntmps29
    have Hl := Lib.hid hl; clear hl
    have Hl2 := Lib.hid hl2; clear hl2
    go_wp2
    go_ret
    exact ⟨congrArg (fun x => Ending.returned (.bool x)) (decide_eq_false he).symm, Ext.refl _⟩
end Go.Proofs.YtphgaommokgfcaaGreatDoor

namespace Go.Proofs.YtphgaommokgfcaaGreatDoor
open Go.RowKit

theorem str_Join (A : Option Addr) (n c : Nat) (ss : List ByteArray) (w : World) (h : RdS w A n ss) (hc : n ≤ c) (hT : totS ss + 2 * n ≤ 70368744177664) :
    Calls Tryz.prog 70 #[.slice A n c, .string ⟨#[44, 32]⟩] w fun e w' => e = .returned (.string (joinS ss)) ∧ Ext w w' := by
  have hl := h.lenS
  by_cases h0 : 0 < n
  · obtain ⟨b, o, rfl, hcell⟩ := h.2 (by simp; omega)
    have hbk : b < w.heap.size := World.block_lt_of_cell? w _ (hcell 0 (.string (ss[0]'(by omega))) (by simp [List.getElem?_eq_getElem (show 0 < ss.length by omega)]))
    have hj := joinL_len ss
    subst hl
    exact (Tryz.strings_Join b o c ss ⟨#[44, 32]⟩ w (fun j x hx => hcell j _ (by simp [hx])) hbk (by omega) hc (by simp only []; omega)).mono fun e w' hh => ⟨hh.1, hh.2⟩
  · obtain rfl : n = 0 := by omega
    obtain rfl : ss = [] := List.eq_nil_of_length_eq_zero hl
    exact (Tryz.strings_Join_none A c ⟨#[44, 32]⟩ w).mono fun e w' hh => ⟨hh.1, by rw [hh.2]; exact Ext.refl _⟩
end Go.Proofs.YtphgaommokgfcaaGreatDoor

namespace Go.Proofs.YtphgaommokgfcaaGreatDoor
open Go.RowKit

set_option maxHeartbeats 1000000 in
theorem field_Get (A : Option Addr) (n c : Nat) (fs : List Fd) (name : ByteArray) (w : World) (hf : RdF w A n fs)
    (hn : n ≤ 1073741824) (hs : name.size ≤ 9223372036854775807) (B : Nat) (hB : B ≤ 140737488355328) (hsz : Bsz B fs) (hT : sumF fs + 2 * n ≤ 70368744177664) :
    Calls Tryz.prog 54 #[.slice A n c, .string name] w fun e w' => e = .returned (.tuple #[.string (joinS (allS fs name)), .bool (decide (0 < (allS fs name).length))]) ∧ Ext w w' := by
  have hl := hf.lenF
  have hta := totS_all fs name
  rw [hl] at hta
  have hal : (allS fs name).length ≤ n := by have := allS_len fs name n; rwa [List.take_of_length_le (by omega)] at this
  have Hl := Lib.hid hl; clear hl
  go_enter Tryz.func54, Tryz.ntmps54
  go_wp2_with fail
  refine (field_All _ _ _ _ _ _ hf hn hs (fun f hff => by have := (hsz f hff).1; omega)).mono ?_
  rintro e w1 ⟨A', n', c', rfl, hr, hc, hb1⟩
  have hl2 := hr.lenS
  rw [← hl2] at hc hr
  obtain rfl := hl2
  generalize hss : allS fs name = ss at *
  have Hss := Lib.hid hss; clear hss
  go_wp2_with fail
  refine (str_Join _ _ _ _ _ hr hc (by omega)).mono ?_
  rintro e w2 ⟨rfl, hb2⟩
  go_wp2_with fail
  go_ret2
  obtain rfl := Hss.out
  exact ⟨by simp, hb1.trans hb2⟩

end Go.Proofs.YtphgaommokgfcaaGreatDoor

namespace Go.Proofs.YtphgaommokgfcaaGreatDoor
open Go.RowKit

theorem sizeF_step {fs : List Fd} {k : Nat} (h : k < fs.length) : sumF (fs.take (k + 1)) + 4 * (k + 1) = sumF (fs.take k) + 4 * k + (fs[k].1.size + fs[k].2.size + 4) := by
  rw [sumF_step h]; omega

def awakeFs : List Fd := [(⟨#[65]⟩, ⟨#[49]⟩), (⟨#[98]⟩, ⟨#[120]⟩), (⟨#[97]⟩, ⟨#[50]⟩)]
theorem awake_get : joinS (allS awakeFs ⟨#[65]⟩) = ⟨#[49, 44, 32, 50]⟩ ∧ (allS awakeFs ⟨#[65]⟩).length = 2 ∧ sumF awakeFs + 4 * 3 = 18 := by decide +kernel

theorem awake_bsz : Bsz 1 awakeFs := by unfold Bsz; decide +kernel

theorem gets_small {fs : List Fd} (h : smallS fs = true) : fs.length ≤ 70 ∧ sumF fs ≤ 6000 := by
  simpa [smallS] using h

end Go.Proofs.YtphgaommokgfcaaGreatDoor

namespace Go.Proofs.YtphgaommokgfcaaGreatDoor
open Go.RowKit

theorem infoRfd : (Tryz.prog.info? 44).map (fun i => (i.zero, i.size, i.bytes)) = some (some (.agg #[.string ⟨#[]⟩, .string ⟨#[]⟩]), 2, 32) := by kernel_rfl

set_option maxHeartbeats 1000000 in
theorem field_Remove (A : Option Addr) (n c : Nat) (fs : List Fd) (name : ByteArray) (w : World) (hf : RdF w A n fs)
    (hn : n ≤ 1073741824) (hs : name.size ≤ 9223372036854775807) (hsz : Bsz 4611686018427387904 fs) :
    Calls Tryz.prog 23 #[.slice A n c, .string name] w fun e w' => ∃ A' n' c', e = .returned (.slice A' n' c') ∧ RdF w' A' n' (remS fs name) ∧ n' ≤ c' ∧ Ext w w' ∧ w'.ownsRow w.heap.size 45 2 (.slice A' n' c') n' (fldCells (remS fs name)) := by
  have hl := hf.lenF
  go_enter Tryz.func23, Tryz.ntmps23
  have Hl := Lib.hid hl; clear hl
  go_wp2_with fail
  refine (field_lower _ _ (by assumption)).mono ?_; rintro e w1 ⟨rfl, hb1⟩
  go_wp2_with fail
  go_loopw [5, 12] (fun v i wr => ∃ k m A' c', k ≤ n ∧ i = .int .i64 (k : Nat) ∧ v = .slice A' m c' ∧ wr.ownsRow w1.heap.size 45 2 (.slice A' m c') m (fldCells (remS (fs.take k) name)) ∧ m ≤ c' ∧ Ext w1 wr) (fun _ i _ => n - (intOf i).toNat)
  case atStart => exact ⟨0, 0, none, 0, Nat.zero_le _, rfl, rfl, World.ownsRow_nil _ _ _ _, Nat.le_refl _, Ext.refl _⟩
  case round =>
    obtain ⟨k, m, A', c', hk, rfl, rfl, hown, hmc, hbr⟩ := hrel
    by_cases hlt : k < n
    · have hlt' : k < fs.length := by have := Hl.out; omega
      obtain ⟨b, o, rfl, hc0, hc1⟩ := (hf.ext (hb1.trans hbr)).atF hlt'
      have hbd := (hsz.at_ hlt').1
      have hm1 := hown.1
      rw [fldCells_len] at hm1
      have hmk := remS_len fs name k
      have hmk2 : m ≤ k := by omega
      have Hm := Lib.hid hm1; clear hm1 hmk
      by_cases hy : isN name fs[k] = true
      · have Hst := Lib.hid (remS_drop hlt' hy)
        unfold isN at hy
        have hy2 : ((lowS fs[k].1).toList != (lowS name).toList) = false := by simp [bne, hy]
        generalize fs[k].1 = nm at *
        generalize fs[k].2 = vl at *
        go_wp2_with (first
          | (go_at_call 45; refine (field_lower _ _ (by omega)).mono ?_; rintro e w2 ⟨rfl, hb2⟩; have hc2 := hb2.cells; have hz2 := hb2.size))
        go_roundw
        case rel => exact ⟨k + 1, m, A', c', by omega, by go_num, rfl, by rw [Hst.out]; exact own_ext (hown.alloc _) hb2, hmc, (hbr.alloc _).trans hb2⟩
        case measure => simp [intOf]; omega
      · have hy : isN name fs[k] = false := by simpa using hy
        have Hst := Lib.hid (remS_keep hlt' hy)
        unfold isN at hy
        have hy2 : ((lowS fs[k].1).toList != (lowS name).toList) = true := by simp [bne, hy]
        generalize hx : fs[k] = x at *
        obtain ⟨nm, vl⟩ := x
        clear hx
        simp only at hy hy2 hbd hc0 hc1
        go_wp2_with (first
          | (go_at_call 45; refine (field_lower _ _ (by omega)).mono ?_; rintro e w2 ⟨rfl, hb2⟩; have hc2 := hb2.cells; have hz2 := hb2.size)
          | (at_builtin; refine wpList_app _ rfl (.tmp 21) (.tmp 23) 31 rfl w1 45 _ 2 32 Tryz.underlying31 infoFld rfl (by decide) _ _ _ rfl ((own_ext (hown.alloc _) hb2).alloc _) _ 1 1 (fldCells [(nm, vl)]) rfl (Rd.two _ _ _ _ (by simp)) (fldCells_one _) (((hbr.alloc _).trans hb2).alloc _) (by omega) (by decide) ?_; intro A2 c2 w3 hown3 hb3 hle3))
        go_roundw
        case rel => exact ⟨k + 1, m + 1, A2, c2, by omega, by go_num, rfl, by rw [Hst.out, fldCells_app]; exact hown3, hle3, hb3⟩
        case measure => simp [intOf]; omega
    · obtain rfl : k = n := by omega
      have he : fs.take k = fs := List.take_of_length_le (by have := Hl.out; omega)
      rw [he] at hown
      go_wp2
      go_ret
      exact ⟨_, _, _, rfl, Rd.of_own hown, hmc, hb1.trans hbr, own_base hown hb1.size⟩

set_option maxHeartbeats 1000000 in
theorem ref_Remove (A : Option Addr) (n c : Nat) (fs : List Fd) (name : ByteArray) (w : World) (hf : RdF w A n fs)
    (hn : n ≤ 1073741824) (hs : name.size ≤ 4611686018427387904) (hsz : Bsz 4611686018427387904 fs) :
    Calls Tryz.prog 32 #[.slice A n c, .string name] w fun e w' => ∃ A' n' c', e = .returned (.slice A' n' c') ∧ RdF w' A' n' (remS fs name) ∧ n' ≤ c' ∧ Ext w w' ∧ w'.ownsRow w.heap.size 44 2 (.slice A' n' c') n' (fldCells (remS fs name)) := by
  have hl := hf.lenF
  go_enter Tryz.func32, Tryz.ntmps32
  have Hl := Lib.hid hl; clear hl
  go_wp2_with fail
  go_loopw [5, 9] (fun v i wr => ∃ k m A' c', k ≤ n ∧ i = .int .i64 (k : Nat) ∧ v = .slice A' m c' ∧ wr.ownsRow w.heap.size 44 2 (.slice A' m c') m (fldCells (remS (fs.take k) name)) ∧ m ≤ c' ∧ Ext w wr) (fun _ i _ => n - (intOf i).toNat)
  case atStart => exact ⟨0, 0, none, 0, Nat.zero_le _, rfl, rfl, World.ownsRow_nil _ _ _ _, Nat.le_refl _, Ext.refl _⟩
  case round =>
    obtain ⟨k, m, A', c', hk, rfl, rfl, hown, hmc, hbr⟩ := hrel
    by_cases hlt : k < n
    · have hlt' : k < fs.length := by have := Hl.out; omega
      obtain ⟨b, o, rfl, hc0, hc1⟩ := (hf.ext hbr).atF hlt'
      have hbl := World.block_lt_of_cell? _ _ hc1
      have hbd := (hsz.at_ hlt').1
      have hm1 := hown.1
      rw [fldCells_len] at hm1
      have hmk := remS_len fs name k
      have hmk2 : m ≤ k := by omega
      have Hm := Lib.hid hm1; clear hm1 hmk
      have hOf := fun w => ref_Of fs[k].1 fs[k].2 name w hbd hs
      have HOf := Lib.hid hOf; clear hOf
      by_cases hy : isN name fs[k] = true
      · have Hst := Lib.hid (remS_drop hlt' hy)
        have Hy := Lib.hid hy; clear hy
        go_wp2_with fail
        refine (HOf.out _).mono ?_; rintro e w2 ⟨rfl, hb2⟩
        have hy : isN name (fs[k].1, fs[k].2) = true := Hy.out
        rw [hy]
        go_wp2_with fail
        go_roundw
        case rel => exact ⟨k + 1, m, A', c', by omega, by go_num, rfl, by rw [Hst.out]; exact own_ext hown hb2, hmc, hbr.trans hb2⟩
        case measure => simp [intOf]; omega
      · have hy : isN name fs[k] = false := by simpa using hy
        have Hst := Lib.hid (remS_keep hlt' hy)
        have Hy := Lib.hid hy; clear hy
        go_wp2_with fail
        refine (HOf.out _).mono ?_; rintro e w2 ⟨rfl, hb2⟩
        have hc2 := hb2.cells; have hz2 := hb2.size
        have hy : isN name (fs[k].1, fs[k].2) = false := Hy.out
        rw [hy]
        generalize hx : fs[k] = x at *
        obtain ⟨nm, vl⟩ := x
        clear hx
        simp only at hy hbd hc0 hc1
        go_wp2_with (first
          | (at_builtin; refine wpList_app _ rfl (.tmp 19) (.tmp 24) 22 rfl w 44 _ 2 32 Tryz.underlying22 infoRfd rfl (by decide) _ _ _ rfl ((own_ext hown hb2).alloc _) _ 1 1 (fldCells [(nm, vl)]) rfl (Rd.two _ _ _ _ (by simp)) (fldCells_one _) ((hbr.trans hb2).alloc _) (by omega) (by decide) ?_; intro A2 c2 w3 hown3 hb3 hle3))
        go_roundw
        case rel => exact ⟨k + 1, m + 1, A2, c2, by omega, by go_num, rfl, by rw [Hst.out, fldCells_app]; exact hown3, hle3, hb3⟩
        case measure => simp [intOf]; omega
    · obtain rfl : k = n := by omega
      have he : fs.take k = fs := List.take_of_length_le (by have := Hl.out; omega)
      rw [he] at hown
      go_wp2
      go_ret
      exact ⟨_, _, _, rfl, Rd.of_own hown, hmc, hbr, hown⟩

end Go.Proofs.YtphgaommokgfcaaGreatDoor

namespace Go.Proofs.YtphgaommokgfcaaGreatDoor
open Go.RowKit

def marks : List UInt8 := [33, 35, 36, 37, 38, 39, 42, 43, 45, 46, 94, 95, 96, 124, 126]
/-- Is it a sign of a token? -/
def tcharB (c : UInt8) : Bool := (48 ≤ c && c ≤ 57) || (97 ≤ c && c ≤ 122) || (65 ≤ c && c ≤ 90) || marks.contains c
/-- Is a string a token? -/
def tokS (s : ByteArray) : Bool := s.data.toList.all tcharB && decide (0 < s.size)

theorem tchar_alnum {c : UInt8} (h : ((48 : Int) ≤ c.toNat ∧ (c.toNat : Int) ≤ 57) ∨ ((97 : Int) ≤ c.toNat ∧ (c.toNat : Int) ≤ 122) ∨ ((65 : Int) ≤ c.toNat ∧ (c.toNat : Int) ≤ 90)) : tcharB c = true := by
  unfold tcharB
  rcases h with h | h | h
  · have : (48 ≤ c && c ≤ 57) = true := by simp [UInt8.le_iff_toNat_le]; omega
    simp [this]
  · have : (97 ≤ c && c ≤ 122) = true := by simp [UInt8.le_iff_toNat_le]; omega
    simp [this]
  · have : (65 ≤ c && c ≤ 90) = true := by simp [UInt8.le_iff_toNat_le]; omega
    simp [this]
theorem tchar_mark {c : UInt8} (h1 : ¬ ((48 : Int) ≤ c.toNat ∧ (c.toNat : Int) ≤ 57)) (h2 : ¬ ((97 : Int) ≤ c.toNat ∧ (c.toNat : Int) ≤ 122)) (h3 : ¬ ((65 : Int) ≤ c.toNat ∧ (c.toNat : Int) ≤ 90)) : tcharB c = marks.contains c := by
  unfold tcharB
  have a1 : (48 ≤ c && c ≤ 57) = false := by
    rw [Bool.eq_false_iff]; simp [UInt8.le_iff_toNat_le]; omega
  have a2 : (97 ≤ c && c ≤ 122) = false := by
    rw [Bool.eq_false_iff]; simp [UInt8.le_iff_toNat_le]; omega
  have a3 : (65 ≤ c && c ≤ 90) = false := by
    rw [Bool.eq_false_iff]; simp [UInt8.le_iff_toNat_le]; omega
  rw [a1, a2, a3]; rfl
theorem tok_step {s : ByteArray} {k : Nat} (h : k < s.size) (h1 : (s.data.toList.take k).all tcharB = true) (h2 : tcharB s.data[k] = true) : (s.data.toList.take (k + 1)).all tcharB = true := by
  rw [take_step _ k (by simpa using h), List.all_append, h1]
  simpa using h2
theorem tok_no {s : ByteArray} {k : Nat} (h : k < s.size) (h2 : tcharB s.data[k] = false) : false = tokS s := by
  have h3 : s.data.toList.all tcharB = false := by
    rw [List.all_eq_false]
    exact ⟨s.data[k], by simp, by simp [h2]⟩
  rw [tokS, h3]; rfl
theorem tok_end {s : ByteArray} (h1 : (s.data.toList.take s.size).all tcharB = true) : tokS s = decide (0 < s.size) := by
  rw [List.take_of_length_le (by simp)] at h1
  rw [tokS, h1, Bool.true_and]
theorem ne_empty (s : ByteArray) : (!(s.toList == (⟨#[]⟩ : ByteArray).toList)) = decide (0 < s.size) := by
  rw [Bool.eq_iff_iff]
  simp only [Bool.not_eq_true', decide_eq_true_eq]
  rw [← Bool.not_eq_true, eqS_iff]
  constructor
  · intro h
    rcases Nat.eq_zero_or_pos s.size with h0 | h0
    · exact absurd (ByteArray.size_eq_zero_iff.1 h0) h
    · exact h0
  · intro h e; subst e; exact absurd h (by decide)

theorem indexMarks (c : UInt8) : decide (0 ≤ Lib.indexByte marks c) = marks.contains c := (Lib.contains_iff_indexByte _ _).symm

theorem marks_at {c : UInt8} {S : ByteArray} (hS : S.data = marks.toArray) {k : Nat} (h : k < S.size) (e : ((S[k].toNat : Int) == c.toNat) = true) : true = marks.contains c := by
  have h2 : S[k] = c := UInt8.toNat_inj.1 (by simp at e; omega)
  have h3 : c ∈ S.data.toList := by
    rw [← h2, Array.mem_toList_iff]; exact Array.getElem_mem (xs := S.data) h
  rw [hS] at h3
  simp only [List.contains_eq_mem]
  simpa using h3
theorem marks_step {c : UInt8} {S : ByteArray} (_ : S.data = marks.toArray) {k : Nat} (h : k < S.size) (h1 : (S.data.toList.take k).contains c = false) (e : ((S[k].toNat : Int) == c.toNat) = false) : (S.data.toList.take (k + 1)).contains c = false := by
  rw [take_step S.data.toList k (by simpa using h)]
  simp only [List.contains_eq_mem, List.mem_append, decide_eq_false_iff_not, not_or] at *
  refine ⟨h1, ?_⟩
  simp only [List.mem_singleton]
  rintro rfl
  simp at e
  exact e rfl

end Go.Proofs.YtphgaommokgfcaaGreatDoor

namespace Go.Proofs.YtphgaommokgfcaaGreatDoor
open Go.RowKit

def nameE (s : ByteArray) : Nat := if tokS s then (if s.size > 64 then 5 else 0) else 8
def nameS (s : ByteArray) : ByteArray := if nameE s = 0 then lowS s else ⟨#[]⟩
def valueE (s : ByteArray) : Nat := if ctlS s then 2 else (if (trimF s).size > 2048 then 5 else 0)
def valueS (s : ByteArray) : ByteArray := if valueE s = 0 then trimF s else ⟨#[]⟩
theorem nameE_lt (s : ByteArray) : nameE s < 9 := by unfold nameE; split <;> (try split) <;> omega
theorem valueE_lt (s : ByteArray) : valueE s < 9 := by unfold valueE; split <;> (try split) <;> omega
theorem name_no {s : ByteArray} (h : tokS s = false) : nameE s = 8 ∧ nameS s = ⟨#[]⟩ := by
  have : nameE s = 8 := by unfold nameE; rw [h]; rfl
  exact ⟨this, by unfold nameS; rw [this]; rfl⟩
theorem name_big {s : ByteArray} (h : tokS s = true) (h2 : s.size > 64) : nameE s = 5 ∧ nameS s = ⟨#[]⟩ := by
  have : nameE s = 5 := by unfold nameE; rw [if_pos h, if_pos h2]
  exact ⟨this, by unfold nameS; rw [this]; rfl⟩
theorem name_ok {s : ByteArray} (h : tokS s = true) (h2 : ¬ s.size > 64) : nameE s = 0 ∧ nameS s = lowS s := by
  have : nameE s = 0 := by unfold nameE; rw [if_pos h, if_neg h2]
  exact ⟨this, by unfold nameS; rw [this]; rfl⟩
theorem value_no {s : ByteArray} (h : ctlS s = true) : valueE s = 2 ∧ valueS s = ⟨#[]⟩ := by
  have : valueE s = 2 := by unfold valueE; rw [h]; rfl
  exact ⟨this, by unfold valueS; rw [this]; rfl⟩
theorem value_big {s : ByteArray} (h : ctlS s = false) (h2 : (trimF s).size > 2048) : valueE s = 5 ∧ valueS s = ⟨#[]⟩ := by
  have : valueE s = 5 := by unfold valueE; rw [if_neg (by simp [h]), if_pos h2]
  exact ⟨this, by unfold valueS; rw [this]; rfl⟩
theorem value_ok {s : ByteArray} (h : ctlS s = false) (h2 : ¬ (trimF s).size > 2048) : valueE s = 0 ∧ valueS s = trimF s := by
  have : valueE s = 0 := by unfold valueE; rw [if_neg (by simp [h]), if_neg h2]
  exact ⟨this, by unfold valueS; rw [this]; rfl⟩
/-- A contract's end: a string and an error's number. -/
theorem fin2 {w w' : World} {a b : ByteArray} {n m : Nat} {f : Nat → Value} (h : n = m ∧ a = b) (he : Ext w w') :
    (Ending.returned (.tuple #[.string b, f m]) : Ending) = .returned (.tuple #[.string a, f n]) ∧ Ext w w' := by
  obtain ⟨rfl, rfl⟩ := h; exact ⟨rfl, he⟩

end Go.Proofs.YtphgaommokgfcaaGreatDoor

namespace Go.Proofs.YtphgaommokgfcaaGreatDoor
open Go.RowKit

theorem neB {a b : ByteArray} (h : (a.toList == b.toList) = true) : (a.toList != b.toList) = false := by simp [bne, h]
theorem neB' {a b : ByteArray} (h : (a.toList == b.toList) = false) : (a.toList != b.toList) = true := by simp [bne, h]
theorem eqB_no {a b : ByteArray} (h : a ≠ b) : (a.toList == b.toList) = false := by
  rw [Bool.eq_false_iff]; exact fun h' => h (eqS_iff.1 h')

set_option maxHeartbeats 2000000 in
theorem law_Are (A A2 : Option Addr) (n c n2 c2 : Nat) (xs ys : List Fd) (w : World) (hx : RdF w A n xs) (hy : RdF w A2 n2 ys) (hn : n ≤ 1073741824) (hn2 : n2 ≤ 1073741824) :
    Calls Tryz.prog 13 #[.slice A n c, .slice A2 n2 c2] w fun e w' => e = .returned (.bool (decide (xs = ys))) ∧ Ext w w' := by
  have hl := hx.lenF
  have hl2 := hy.lenF
  by_cases hnn : n = n2
  · subst hnn
    go_enter Tryz.func13, Tryz.ntmps13
    have Hl := Lib.hid hl; clear hl
    have Hl2 := Lib.hid hl2; clear hl2
    go_wp2_with fail
    go_loopg [13] n (fun g i wr => ∃ k, k ≤ n ∧ g = n - k ∧ i = .int .i64 (k : Nat) ∧ xs.take k = ys.take k ∧ Ext w wr)
    case atStart => exact ⟨0, Nat.zero_le _, rfl, rfl, rfl, Ext.refl _⟩
    case round =>
      obtain ⟨k, hk, rfl, rfl, heq, hbr⟩ := hrel
      have Heq := Lib.hid heq; clear heq
      by_cases hlt : k < n
      · have hlt1 : k < xs.length := by have := Hl.out; omega
        have hlt2 : k < ys.length := by have := Hl2.out; omega
        obtain ⟨b, o, rfl, hc0, hc1⟩ := (hx.ext hbr).atF hlt1
        obtain ⟨b2, o2, rfl, hd0, hd1⟩ := (hy.ext hbr).atF hlt2
        have hk2 : (k : Int) < (n : Int) := by omega
        by_cases he1 : xs[k].1 = ys[k].1
        · have hq1 : (xs[k].1.toList == ys[k].1.toList) = true := eqS_iff.2 he1
          have hq2 := neB hq1
          by_cases he2 : xs[k].2 = ys[k].2
          · have Hst := Lib.hid (take_eq_step hlt1 hlt2 Heq.out (Prod.ext he1 he2))
            have hp1 : (xs[k].2.toList == ys[k].2.toList) = true := eqS_iff.2 he2
            have hp2 := neB hp1
            clear he1 he2
            generalize xs[k].1 = x1 at *
            generalize ys[k].1 = y1 at *
            generalize xs[k].2 = x2 at *
            generalize ys[k].2 = y2 at *
            go_wp2_with fail
            go_quiet (fail)
            go_wp2
            go_roundg (n - (k + 1))
            case measure => omega
            case rel => exact ⟨k + 1, by omega, rfl, by go_num, Hst.out, hbr.drewN _⟩
          · have Hst := Lib.hid (ne_of_at hlt1 hlt2 (fun h => he2 (congrArg Prod.snd h)))
            have hp1 := eqB_no he2
            have hp2 := neB' hp1
            clear he1 he2
            generalize xs[k].1 = x1 at *
            generalize ys[k].1 = y1 at *
            generalize xs[k].2 = x2 at *
            generalize ys[k].2 = y2 at *
            go_wp2_with fail
            go_quiet (fail)
            go_wp2
            go_ret
            exact ⟨congrArg (fun x => Ending.returned (.bool x)) (decide_eq_false Hst.out).symm, hbr.drewN _⟩
        · have Hst := Lib.hid (ne_of_at hlt1 hlt2 (fun h => he1 (congrArg Prod.fst h)))
          have hp1 := eqB_no he1
          have hp2 := neB' hp1
          clear he1
          generalize xs[k].1 = x1 at *
          generalize ys[k].1 = y1 at *
          generalize xs[k].2 = x2 at *
          generalize ys[k].2 = y2 at *
          go_wp2_with fail
          go_quiet (fail)
          go_wp2
          go_ret
          exact ⟨congrArg (fun x => Ending.returned (.bool x)) (decide_eq_false Hst.out).symm, hbr.drewN _⟩
      · obtain rfl : k = n := by omega
        have he : xs = ys := by
          have := Heq.out
          rwa [List.take_of_length_le (by have := Hl.out; omega), List.take_of_length_le (by have := Hl2.out; omega)] at this
        go_wp2
        go_ret
        exact ⟨congrArg (fun x => Ending.returned (.bool x)) (decide_eq_true he).symm, hbr⟩
  · have he : xs ≠ ys := by intro h; subst h; omega
    go_enter Tryz.func13, Tryz.ntmps13
    have Hl := Lib.hid hl; clear hl
    have Hl2 := Lib.hid hl2; clear hl2
    go_wp2
    go_ret
    exact ⟨congrArg (fun x => Ending.returned (.bool x)) (decide_eq_false he).symm, Ext.refl _⟩
end Go.Proofs.YtphgaommokgfcaaGreatDoor

namespace Go.Proofs.YtphgaommokgfcaaGreatDoor
open Go.RowKit

def connS : ByteArray := ⟨#[99, 111, 110, 110, 101, 99, 116, 105, 111, 110]⟩
/-- The names that concern one connection alone. -/
def hop : List ByteArray := [⟨#[99, 111, 110, 110, 101, 99, 116, 105, 111, 110]⟩, ⟨#[107, 101, 101, 112, 45, 97, 108, 105, 118, 101]⟩, ⟨#[112, 114, 111, 120, 121, 45, 99, 111, 110, 110, 101, 99, 116, 105, 111, 110]⟩,
  ⟨#[112, 114, 111, 120, 121, 45, 97, 117, 116, 104, 101, 110, 116, 105, 99, 97, 116, 101]⟩, ⟨#[112, 114, 111, 120, 121, 45, 97, 117, 116, 104, 111, 114, 105, 122, 97, 116, 105, 111, 110]⟩, ⟨#[116, 101]⟩, ⟨#[116, 114, 97, 105, 108, 101, 114]⟩,
  ⟨#[116, 114, 97, 110, 115, 102, 101, 114, 45, 101, 110, 99, 111, 100, 105, 110, 103]⟩, ⟨#[117, 112, 103, 114, 97, 100, 101]⟩]
def namesL (vs : List ByteArray) : List ByteArray := hop ++ vs.flatMap fun v => (itemsS v).map lowS
def namesR (vs : List ByteArray) : List ByteArray := hop ++ vs.flatMap itemsS
/-- A list of fields without those that concern one connection alone. -/
def stripS (fs : List Fd) : List Fd := fs.filter fun f => !hasS (namesL (allS fs connS)) (lowS f.1)

theorem lowS_two (s : ByteArray) : lowS (lowS s) = lowS s := by
  apply bytes_ext
  show lowL (lowL s.data.toList) = lowL s.data.toList
  unfold lowL
  rw [List.map_map]
  apply List.map_congr_left
  intro c _
  show lowC (lowC c) = lowC c
  by_cases h : (65 : Int) ≤ c.toNat ∧ (c.toNat : Int) ≤ 90
  · have h1 := lowC_yes c h.1 h.2
    exact lowC_no _ (by omega)
  · rw [lowC_no c h, lowC_no c h]
theorem hop_low : hop.map lowS = hop := by decide +kernel
theorem hop_conn : lowS connS ∈ hop := by
  rw [show lowS connS = connS by decide +kernel]; exact List.mem_cons_self ..
theorem names_low (vs : List ByteArray) : (namesR vs).map lowS = namesL vs := by
  unfold namesR namesL
  rw [List.map_append, hop_low, List.map_flatMap]
theorem has_low {ns : List ByteArray} {f : Fd} : ns.any (fun nm => isN nm f) = hasS (ns.map lowS) (lowS f.1) := by
  unfold hasS
  rw [List.any_map]
  rfl
def remAll (fs : List Fd) (ns : List ByteArray) : List Fd := fs.filter fun f => !ns.any fun nm => isN nm f
theorem remAll_nil (fs : List Fd) : remAll fs [] = fs := by simp [remAll]
theorem remAll_snoc (fs : List Fd) (ns : List ByteArray) (nm : ByteArray) : remAll fs (ns ++ [nm]) = remS (remAll fs ns) nm := by
  unfold remAll remS
  rw [List.filter_filter]
  apply List.filter_congr
  intro f _
  rw [List.any_append]
  simp [Bool.and_comm]
theorem remAll_strip (fs : List Fd) : remAll fs (namesR (allS fs connS)) = stripS fs := by
  unfold remAll stripS
  apply List.filter_congr
  intro f _
  rw [has_low, names_low]
theorem hasS_app {a b : List ByteArray} {x : ByteArray} : hasS (a ++ b) x = (hasS a x || hasS b x) := by unfold hasS; rw [List.any_append]
theorem strip_all (fs : List Fd) : allS (stripS fs) connS = [] := by
  unfold allS stripS
  rw [List.filter_filter, List.map_eq_nil_iff, List.filter_eq_nil_iff]
  intro f _ h
  simp only [Bool.and_eq_true, Bool.not_eq_true'] at h
  obtain ⟨h1, h2⟩ := h
  have h3 : lowS f.1 = lowS connS := isN_iff.1 h1
  have h4 : hasS (namesL (allS fs connS)) (lowS f.1) = true := hasS_iff.2 (by
    rw [h3]; unfold namesL; exact List.mem_append_left _ hop_conn)
  rw [h4] at h2; cases h2
theorem strip_two (fs : List Fd) : stripS (stripS fs) = stripS fs := by
  have h : stripS (stripS fs) = (stripS fs).filter fun f => !hasS (namesL (allS (stripS fs) connS)) (lowS f.1) := rfl
  rw [h, strip_all]
  apply List.filter_eq_self.2
  intro f hf
  have h2 := (List.mem_filter.1 hf).2
  unfold namesL at *
  rw [hasS_app] at h2
  rw [hasS_app]
  simp only [List.flatMap_nil, Bool.not_or, Bool.and_eq_true] at *
  exact ⟨h2.1, by simp [hasS]⟩
theorem strip_len (fs : List Fd) : (stripS fs).length ≤ fs.length := List.length_filter_le _ _
theorem strip_bsz {B : Nat} {fs : List Fd} (h : Bsz B fs) : Bsz B (stripS fs) := fun f hf => h f (List.mem_filter.1 hf).1
theorem items_none {s : ByteArray} (h : partsS s 44 = none) : itemsS s = [] := by unfold itemsS; rw [h]; rfl
theorem all_bsz {B : Nat} {fs : List Fd} {name : ByteArray} (h : Bsz B fs) : ∀ v ∈ allS fs name, v.size ≤ B := by
  intro v hv
  obtain ⟨f, hf, rfl⟩ := List.mem_map.1 hv
  exact (h f (List.mem_filter.1 hf).1).2
theorem namesL_step {V : List ByteArray} {k : Nat} (h : k < V.length) : namesL (V.take (k + 1)) = namesL (V.take k) ++ (itemsS V[k]).map lowS := by
  unfold namesL
  rw [fmap_step _ V k h, List.append_assoc]
theorem namesR_step {V : List ByteArray} {k : Nat} (h : k < V.length) : namesR (V.take (k + 1)) = namesR (V.take k) ++ itemsS V[k] := by
  unfold namesR
  rw [fmap_step _ V k h, List.append_assoc]
theorem namesL_zero (V : List ByteArray) : namesL (V.take 0) = hop := by
  unfold namesL; rw [List.take_zero, List.flatMap_nil, List.append_nil]
theorem namesR_zero (V : List ByteArray) : namesR (V.take 0) = hop := by
  unfold namesR; rw [List.take_zero, List.flatMap_nil, List.append_nil]
set_option maxHeartbeats 2000000 in
theorem field_Strip (A : Option Addr) (n c : Nat) (fs : List Fd) (w : World) (hf : RdF w A n fs) (hn : n ≤ 2000) (hsz : Bsz 6000 fs) :
    Calls Tryz.prog 22 #[.slice A n c] w fun e w' => ∃ A' n' c', e = .returned (.slice A' n' c') ∧ RdF w' A' n' (stripS fs) ∧ n' ≤ c' ∧ Ext w w' := by
  have hl := hf.lenF
  go_enter Tryz.func22, Tryz.ntmps22
  have Hl := Lib.hid hl; clear hl
  have hown0 : (w.alloc (.cells (strCells hop).toArray 9)).ownsRow w.heap.size 9 1 (.slice (some ⟨w.heap.size, 0, none⟩) 9 9) 9 (strCells hop) :=
    own_lit w (strCells hop).toArray 9 rfl 1 9 rfl (by simp [maxLen])
  have hb0 : Ext w (w.alloc (.cells (strCells hop).toArray 9)) := (Ext.refl w).alloc _
  have Hown0 := Lib.hid hown0; clear hown0
  have Hb0 := Lib.hid hb0; clear hb0
  go_wp2_with fail
  refine (field_AllO _ _ _ fs connS (w.alloc (.cells (strCells hop).toArray 9)) (hf.ext Hb0.out) (by omega) (by decide) (fun f hff => by have := (hsz f hff).1; omega)).mono ?_; rintro e w1 ⟨A1, n1, c1, rfl, hr1, hc1, hb1, hown1⟩
  have hsep1 := Sep.of_own Hown0.out hown1
  have hnam1 := own_ext Hown0.out hb1
  have hbe1 := Hb0.out.trans hb1
  clear Hown0 Hb0 hown1
  have hva := all_bsz (name := connS) hsz
  have hvl := allS_len fs connS n
  rw [List.take_of_length_le (by have := Hl.out; omega)] at hvl
  generalize hV : allS fs connS = V at *
  have HV := Lib.hid hV; clear hV
  have hl1 := hr1.lenS
  have Hl1 := Lib.hid hl1; clear hl1
  have hn1 : n1 ≤ 2000 := by have := Hl1.out; omega
  have Hsm := Lib.hid (show stripS fs = fs.filter fun f => !hasS (namesL V) (lowS f.1) by unfold stripS; rw [HV.out])
  clear hvl
  go_wp2_with fail
  go_loopw [3, 17] (fun v i wr => ∃ k m A' c', k ≤ n1 ∧ i = .int .i64 (k : Nat) ∧ v = .slice A' m c' ∧ wr.ownsRow w.heap.size 9 1 (.slice A' m c') m (strCells (namesL (V.take k))) ∧ m ≤ c' ∧ m ≤ 9 + k * 6001 ∧ Ext w wr ∧ RdS wr A1 n1 V ∧ Sep A1 n1 (.slice A' m c')) (fun _ i _ => n1 - (intOf i).toNat)
  case atStart => exact ⟨0, 9, _, 9, Nat.zero_le _, rfl, rfl, by rw [namesL_zero]; exact hnam1, Nat.le_refl _, by omega, hbe1, hr1, hsep1⟩
  case round =>
    obtain ⟨k, m, A', c', hk, rfl, rfl, hown, hmc, hmk, hbr, hrV, hsV⟩ := hrel
    by_cases hlt : k < n1
    · have hlt' : k < V.length := by have := Hl1.out; omega
      obtain ⟨b, o, rfl, hc0⟩ := hrV.atS hlt'
      have hvs := hva V[k] (List.getElem_mem hlt')
      have Hst := Lib.hid (namesL_step hlt')
      generalize V[k] = x at *
      go_wp2_with fail
      refine (syntax_List x _ (by omega)).mono ?_; rintro e w2 ⟨A2, n2, c2, rfl, hr2, hc2, hb2, hown2⟩
      have hia := items_all (s := x)
      have hsI := Sep.of_own hown hown2
      have hnam2 := own_ext hown hb2
      have hbe2 := hbr.trans hb2
      have hrV2 := Rd.ext hrV hb2
      clear hown2
      cases hp : partsS x 44
      · have Hno := Lib.hid (items_none hp); clear hp
        have hmk1 : m ≤ 9 + (k + 1) * 6001 := Nat.le_trans hmk (Nat.add_le_add_left (Nat.mul_le_mul_right 6001 (Nat.le_succ k)) 9)
        rw [show pE none = 2 from rfl, show errV 2 = .iface 66 (.int .i64 2) from rfl]
        go_wp2_with fail
        go_roundw
        case rel => exact ⟨k + 1, m, A', c', by omega, by go_num, rfl, by rw [Hst.out, Hno.out, List.map_nil, List.append_nil]; exact hnam2, hmc, hmk1, hbe2, hrV2, hsV⟩
        case measure => simp [intOf]; omega
      · rw [show pE (some _) = 0 from rfl, show errV 0 = .nilIface from rfl]
        clear hp
        generalize itemsS x = I at *
        have hl2 := hr2.lenS
        have Hl2 := Lib.hid hl2; clear hl2
        have hn2 : n2 ≤ 6001 := by have := Hl2.out; omega
        go_wp2_with fail
        go_loopw [3, 30] (fun v i wi => ∃ j m2 B' d', j ≤ n2 ∧ i = .int .i64 (j : Nat) ∧ v = .slice B' m2 d' ∧ wi.ownsRow w.heap.size 9 1 (.slice B' m2 d') m2 (strCells (namesL (V.take k) ++ (I.take j).map lowS)) ∧ m2 ≤ d' ∧ m2 ≤ 9 + k * 6001 + j ∧ Ext w wi ∧ RdS wi (some ⟨b, o, none⟩) n1 V ∧ Sep (some ⟨b, o, none⟩) n1 (.slice B' m2 d') ∧ RdS wi A2 n2 I ∧ Sep A2 n2 (.slice B' m2 d')) (fun _ i _ => n2 - (intOf i).toNat)
        case atStart => exact ⟨0, m, A', c', Nat.zero_le _, rfl, rfl, by rw [List.take_zero, List.map_nil, List.append_nil]; exact hnam2, hmc, by omega, hbe2, hrV2, hsV, hr2, hsI⟩
        case round =>
          obtain ⟨j, m2, B', d', hj, rfl, rfl, howi, hmd, hmj, hbi, hrVi, hsVi, hrI, hsIi⟩ := hrel
          by_cases hjt : j < n2
          · have hjt' : j < I.length := by have := Hl2.out; omega
            obtain ⟨b2, o2, rfl, hd0⟩ := hrI.atS hjt'
            have hys := hia.1 I[j] (List.getElem_mem hjt')
            have Hs2 := Lib.hid (map_step lowS I j hjt')
            generalize I[j] = y at *
            go_wp2_with fail
            refine (field_lower y _ (by omega)).mono ?_; rintro e w3 ⟨rfl, hb3⟩
            generalize lowS y = L at *
            go_wp2_with (first
              | (at_builtin; refine wpList_appAt _ rfl (.tmp 34) (.tmp 37) 54 rfl w 9 _ 1 16 Tryz.underlying54 infoStr rfl (by decide) _ _ _ rfl ((own_ext howi hb3).alloc _) ⟨w3.heap.size, 0, none⟩ 1 1 [.string L] rfl rfl (cell_one_new _ _ _) (strCells_one [L]) ((hbi.trans hb3).alloc _) (by omega) (by decide) ?_; intro A4 c4 w4 hown4 hb4 hle4 hg4 ho4))
            have hrV3 := Rd.alloc (Rd.ext hrVi hb3) (.cells #[.string L] 9)
            have hrI3 := Rd.alloc (Rd.ext hrI hb3) (.cells #[.string L] 9)
            go_roundw
            case rel => exact ⟨j + 1, m2 + 1, A4, c4, by omega, by go_num, rfl, by rw [Hs2.out, ← List.append_assoc, cells_snoc]; exact hown4, hle4, by omega, hb4, Rd.sep hrV3 hg4 hsVi, Sep.next hrV3 hsVi ho4, Rd.sep hrI3 hg4 hsIi, Sep.next hrI3 hsIi ho4⟩
            case measure => simp [intOf]; omega
          · obtain rfl : j = n2 := by omega
            have he : I.take j = I := List.take_of_length_le (by have := Hl2.out; omega)
            rw [he] at howi
            clear he
            go_wp2_with fail
            go_roundw
            case rel => exact ⟨k + 1, m2, B', d', by omega, by go_num, rfl, by rw [Hst.out]; exact howi, hmd, by omega, hbi, hrVi, hsVi⟩
            case measure => simp [intOf]; omega
    · obtain rfl : k = n1 := by omega
      have he : V.take k = V := List.take_of_length_le (by have := Hl1.out; omega)
      rw [he] at hown
      clear he
      go_wp2_with fail
      generalize namesL V = NL at *
      have hm8 : m ≤ 12002009 := by omega
      clear hmk
      rename World => W3
      have hrN := Rd.of_own hown
      go_loopw [10, 43] (fun v i wf => ∃ j m2 B' d', j ≤ n ∧ i = .int .i64 (j : Nat) ∧ v = .slice B' m2 d' ∧ wf.ownsRow W3.heap.size 45 2 (.slice B' m2 d') m2 (fldCells ((fs.take j).filter fun f => !hasS NL (lowS f.1))) ∧ m2 ≤ d' ∧ m2 ≤ j ∧ Ext W3 wf) (fun _ i _ => n - (intOf i).toNat)
      case atStart => exact ⟨0, 0, none, 0, Nat.zero_le _, rfl, rfl, World.ownsRow_nil _ _ _ _, Nat.le_refl _, Nat.le_refl _, Ext.refl _⟩
      case round =>
        obtain ⟨j, m2, B', d', hj, rfl, rfl, howf, hmd, hmj, hbf⟩ := hrel
        by_cases hjt : j < n
        · have hjt' : j < fs.length := by have := Hl.out; omega
          have hbef := hbr.trans hbf
          obtain ⟨b2, o2, rfl, hc0, hc1⟩ := (hf.ext hbef).atF hjt'
          have hbd := (hsz.at_ hjt').1
          have Hy := Lib.hid (ft_yes (fun f : Fd => !hasS NL (lowS f.1)) hjt')
          have Hn := Lib.hid (ft_no (fun f : Fd => !hasS NL (lowS f.1)) hjt')
          have hrN2 := hrN.ext hbf
          generalize hx : fs[j] = x at *
          obtain ⟨nm, vl⟩ := x
          clear hx
          dsimp only at hc0 hc1 hbd
          go_wp2_with fail
          refine (field_lower nm _ (by omega)).mono ?_; rintro e w2 ⟨rfl, hb2⟩
          have hA0 : (wr.alloc (.cells #[.string nm, .string vl] 45)).cell? ⟨wr.heap.size, 0, none⟩ = some (.string nm) := by rw [World.cell?_alloc_mark]; rfl
          have hB0 : (wr.alloc (.cells #[.string nm, .string vl] 45)).cell? ⟨wr.heap.size, 1, none⟩ = some (.string vl) := by rw [World.cell?_alloc_mark]; rfl
          have hA2 := hb2.cell hA0; have hB2 := hb2.cell hB0
          go_wp2_with fail
          refine (str_Contains _ _ _ _ _ _ ((hrN2.alloc _).ext hb2) (by omega)).mono ?_; rintro e w3 ⟨rfl, hb3⟩
          have hA3 := hb3.cell hA2; have hB3 := hb3.cell hB2
          have howf3 := own_ext (own_ext (howf.alloc (.cells #[.string nm, .string vl] 45)) hb2) hb3
          have hb23 := ((hbf.alloc (.cells #[.string nm, .string vl] 45)).trans hb2).trans hb3
          cases hh : hasS NL (lowS nm)
          · have Hk := Lib.hid (Hy.out (notB' hh)); clear hh
            go_wp2_with (first
              | (at_builtin; refine wpList_app _ rfl (.tmp 53) (.tmp 55) 31 rfl W3 45 _ 2 32 Tryz.underlying31 infoFld rfl (by decide) _ _ _ rfl (howf3.alloc _) _ 1 1 (fldCells [(nm, vl)]) rfl (Rd.two _ _ _ _ (by simp)) (fldCells_one _) (hb23.alloc _) (by omega) (by decide) ?_; intro A4 c4 w4 hown4 hb4 hle4))
            go_roundw
            case rel => exact ⟨j + 1, m2 + 1, A4, c4, by omega, by go_num, rfl, by rw [Hk.out, fldCells_app]; exact hown4, hle4, by omega, hb4⟩
            case measure => simp [intOf]; omega
          · have Hk := Lib.hid (Hn.out (notB hh)); clear hh
            go_wp2_with fail
            go_roundw
            case rel => exact ⟨j + 1, m2, B', d', by omega, by go_num, rfl, by rw [Hk.out]; exact howf3, hmd, by omega, hb23⟩
            case measure => simp [intOf]; omega
        · obtain rfl : j = n := by omega
          have he : fs.take j = fs := List.take_of_length_le (by have := Hl.out; omega)
          rw [he, ← Hsm.out] at howf
          clear he
          go_wp2_with fail
          go_ret
          exact ⟨_, _, _, rfl, Rd.of_own howf, hmd, hbr.trans hbf⟩
end Go.Proofs.YtphgaommokgfcaaGreatDoor

namespace Go.Proofs.YtphgaommokgfcaaGreatDoor
open Go.RowKit

def getO (fs : List Fd) (name : ByteArray) : Option ByteArray := if 0 < (allS fs name).length then some (joinS (allS fs name)) else none
def getV (o : Option ByteArray) : Value := .tuple #[.string (o.getD ⟨#[]⟩), .bool o.isSome]
theorem getO_some (fs : List Fd) (name : ByteArray) : (getO fs name).isSome = hasF fs name := by
  unfold getO hasF
  split
  · rename_i h; rw [decide_eq_true h]; rfl
  · rename_i h; rw [decide_eq_false h]; rfl
theorem getV_get (fs : List Fd) (name : ByteArray) : Value.tuple #[.string (joinS (allS fs name)), .bool (decide (0 < (allS fs name).length))] = getV (getO fs name) := by
  unfold getO
  cases h : allS fs name with
  | nil => rfl
  | cons a l =>
    rw [if_pos (by simp)]
    simp [getV]
theorem field_GetO (A : Option Addr) (n c : Nat) (fs : List Fd) (name : ByteArray) (w : World) (hf : RdF w A n fs)
    (hn : n ≤ 1073741824) (hs : name.size ≤ 9223372036854775807) (hsz : Bsz 1048576 fs) (hT : sumF fs + 2 * n ≤ 70368744177664) :
    Calls Tryz.prog 54 #[.slice A n c, .string name] w fun e w' => e = .returned (getV (getO fs name)) ∧ Ext w w' := by
  rw [← getV_get]
  exact field_Get A n c fs name w hf hn hs 1048576 (by decide) hsz hT
end Go.Proofs.YtphgaommokgfcaaGreatDoor
