
/- The walk of DirectiveJoins: it returns true. -/
import Derived.Test.YtaebbnadmfbdjaaDoorL11p
import Derived.Test.YtaebbnadmfbdjaaDoorPl11
import Derived.Deep.RegionHeld3
import Derived.Deep.MidRow
import Derived.Deep.DeepCutAuto
import Derived.Deep.CutBlock
set_option linter.unusedSimpArgs false
set_option linter.unusedVariables false
namespace Go.Proofs.YtaebbnadmfbdjaaDoor
open Go.RowKit

theorem c12 {w' : World} {g : Nat} {t : TypeId} {DV : D} (h : Blk w' g t (dArr DV)) : w'.cell? ⟨g, 0, none⟩ = some (.bool DV.b0) ∧ w'.cell? ⟨g, 1, none⟩ = some (.bool DV.b1) ∧ w'.cell? ⟨g, 2, none⟩ = some (.bool DV.b2) ∧ w'.cell? ⟨g, 3, none⟩ = some (.bool DV.b3) ∧ w'.cell? ⟨g, 4, none⟩ = some (.bool DV.b4) ∧ w'.cell? ⟨g, 5, none⟩ = some (.bool DV.b5) ∧ w'.cell? ⟨g, 6, none⟩ = some (.int .i64 DV.n0) ∧ w'.cell? ⟨g, 7, none⟩ = some (.int .i64 DV.n1) ∧ w'.cell? ⟨g, 8, none⟩ = some (.int .i64 DV.n2) ∧ w'.cell? ⟨g, 9, none⟩ = some (.int .i64 DV.n3) ∧ w'.cell? ⟨g, 10, none⟩ = some (.int .i64 DV.n4) ∧ w'.cell? ⟨g, 11, none⟩ = some (.int .i64 DV.n5) :=
  ⟨h.cell 0, h.cell 1, h.cell 2, h.cell 3, h.cell 4, h.cell 5, h.cell 6, h.cell 7, h.cell 8, h.cell 9, h.cell 10, h.cell 11⟩
theorem lg_no {ss : List ByteArray} (h : lgS ss = false) : ss.length + totS ss ≤ 3000 := by
  have := of_decide_eq_false h; omega
theorem joinC_one {V : List ByteArray} (h : 0 < V.length) : joinC (V.take (0 + 1)) = V[0] := by
  rw [take_step V 0 h]; rfl
theorem joinC_step {V : List ByteArray} {k : Nat} (hk : 0 < k) (h : k < V.length) : joinC (V.take (k + 1)) = joinC (V.take k) ++ ⟨#[44]⟩ ++ V[k] := by
  rw [take_step V k h]
  cases hV : V.take k with
  | nil =>
    have := congrArg List.length hV
    rw [List.length_take, List.length_nil] at this; omega
  | cons v r =>
    show (r ++ [V[k]]).foldl _ v = _
    rw [List.foldl_append]; rfl
theorem joinC_size (V : List ByteArray) : (joinC V).size ≤ totS V + V.length := by
  have key : ∀ (r : List ByteArray) (v : ByteArray), (r.foldl (fun a x => a ++ ⟨#[44]⟩ ++ x) v).size ≤ v.size + totS r + r.length := by
    intro r
    induction r with
    | nil => intro v; simp [totS]
    | cons x r ih =>
      intro v
      have h := ih (v ++ ⟨#[44]⟩ ++ x)
      rw [List.foldl_cons]
      rw [ByteArray.size_append, ByteArray.size_append, show (⟨#[44]⟩ : ByteArray).size = 1 from rfl] at h
      simp only [totS, List.map_cons, List.sum_cons, List.length_cons] at *
      omega
  cases V with
  | nil => simp [joinC, ByteArray.size]
  | cons v r => have := key r v; simp only [joinC, totS, List.map_cons, List.sum_cons, List.length_cons] at *; omega
theorem okL_step {V : List ByteArray} {k : Nat} (h : k < V.length) (h1 : okL (V.take k) = true) (h2 : (partsS V[k] 44).isSome = true) : okL (V.take (k + 1)) = true := by
  unfold okL at *
  rw [take_step V k h, List.all_append, h1]; simpa using h2
theorem rev_step {V : List ByteArray} {k : Nat} (h : k < V.length) : strCells (V.take (k + 1)).reverse = [.string V[k]] ++ strCells (V.take k).reverse := by
  rw [take_step V k h, List.reverse_append]; rfl
theorem tot_rev (V : List ByteArray) : totS V.reverse = totS V := by
  unfold totS; rw [List.map_reverse, List.sum_reverse]

set_option maxHeartbeats 2000000 in
set_option maxRecDepth 100000 in
theorem joins_walk (A : Option Addr) (n c : Nat) (V : List ByteArray) (w : World) (hr : RdS w A n V) (hb : V.length + totS V ≤ 1048576) (hg : Gl w) :
    Calls Tryd.prog 4 #[.slice A n c] w fun e w' => e = .returned (.bool true) ∧ Ext w w' := by
  have hl := hr.lenS
  have Hl := Lib.hid hl; clear hl
  have hn : n ≤ 1048576 := by have := Hl.out; omega
  go_enter Tryd.func4, Tryd.ntmps4
  go_wp2_with fail
  refine (law_large A n c V _ hr hb).mono ?_; rintro e w1 ⟨rfl, hb1⟩
  cases hlg : lgS V
  · have hsm := lg_no hlg
    clear hlg hb
    have hn : n ≤ 3000 := by have := Hl.out; omega
    have Hv := Lib.hid (show ∀ v ∈ V, v.size ≤ 3000 from fun v h => by have := totS_mem h; omega)
    go_wp2_with fail
    refine (law_awake _ (hg.ext hb1)).mono ?_; rintro e w2 ⟨rfl, hb2⟩
    have hbw2 := hb1.trans hb2
    go_wp2_with fail
    go_loopw [3, 4, 20] (fun j v i wr => ∃ k A' c', k ≤ n ∧ i = .int .i64 (k : Nat) ∧ j = .string (joinC (V.take k)) ∧ v = .slice A' k c' ∧ RdS wr A' k (V.take k).reverse ∧ okL (V.take k) = true ∧ Ext w wr) (fun _ _ i _ => n - (intOf i).toNat)
    case atStart => exact ⟨0, none, 0, Nat.zero_le _, rfl, rfl, rfl, Rd.none_ _ _ _, rfl, hbw2⟩
    case round =>
      obtain ⟨k, A', c', hk, rfl, rfl, rfl, hbk, hok, hbr⟩ := hrel
      have Hok := Lib.hid hok; clear hok
      by_cases hlt : k < n
      · have hlt' : k < V.length := by have := Hl.out; omega
        obtain ⟨b, o, rfl, hc0⟩ := (hr.ext hbr).atS hlt'
        have hvs := Hv.out V[k] (List.getElem_mem hlt')
        have Hst := Lib.hid (okL_step hlt' Hok.out)
        have Hrv := Lib.hid (rev_step hlt')
        have hjs := joinC_size (V.take k)
        have htk := totS_at hlt'
        have hjz : (joinC (V.take k)).size ≤ 6000 := by
          have : (V.take k).length ≤ k := by rw [List.length_take]; omega
          omega
        have Hj1 := Lib.hid (@joinC_step V k)
        have Hj0 := Lib.hid (@joinC_one V)
        clear hjs htk
        rcases Nat.eq_zero_or_pos k with h0 | h0
        · have h0' : ¬ (0 : Int) < (k : Int) := by omega
          have Hjo := Lib.hid (show joinC (V.take (k + 1)) = V[k] by have h := @Hj0.out; subst h0; exact h hlt'); clear Hj1 Hj0
          have he : joinC (V.take k) = ⟨#[]⟩ := by subst h0; rfl
          have h0n : k ≤ 0 := Nat.le_of_eq h0
          clear h0
          generalize V[k] = x at *
          have hsum : ∀ w, (Op.stringOp .add (⟨#[]⟩ : ByteArray) x).run Tryd.prog w = .ok (.string (⟨#[]⟩ ++ x)) w := fun w => run_string_add_sum w _ x (by rw [show (⟨#[]⟩ : ByteArray).size = 0 from rfl]; omega)
          have Hx : Hid ((⟨#[]⟩ : ByteArray) ++ x = x) := Lib.hid (bytes_ext (by rw [data_append]; rfl))
          rw [he]
          clear he
          go_wp2_with fail
          refine (ref_List x _ (by omega)).mono ?_; rintro e w4 ⟨A4, n4, c4, rfl, hr4, hc4, hb4⟩
          cases hp : (partsS x 44).isSome
          · clear hp
            go_wp2_with fail
            go_ret
            exact ⟨rfl, hbr.trans hb4⟩
          · have Hs := Lib.hid (Hst.out hp); clear hp
            have hbr4 := hbr.trans hb4
            have hbk4 := hbk.ext hb4
            go_wp2_with (first
              | (at_builtin; refine wpList_app _ rfl (.tmp 40) (.tmp 41) 22 rfl w4 9 _ 1 16 Tryd.underlying22 infoStr rfl (by decide) _ 1 [.string x] rfl (own_lit w4 #[.string x] 9 rfl 1 1 rfl (by simp [maxLen])) _ k c' _ rfl (hbk4.alloc _) (strCells_one _) ((Ext.refl w4).alloc _) (by omega) (by decide) ?_; intro A5 c5 w5 hown5 hb5 hle5))
            rw [Nat.add_comm 1 k] at hown5
            go_roundw
            case rel => exact ⟨k + 1, A5, c5, by omega, by go_num, by rw [Hx.out, Hjo.out], by rw [Nat.add_comm 1 k], by unfold RdS; rw [Hrv.out]; exact Rd.of_own hown5, Hs.out, hbr4.trans hb5⟩
            case measure => simp [intOf]; omega
        · have Hjo := Lib.hid (Hj1.out h0 hlt'); clear Hj1 Hj0
          generalize joinC (V.take k) = J at *
          generalize V[k] = x at *
          have hsum1 : ∀ w, (Op.stringOp .add J (⟨#[44]⟩ : ByteArray)).run Tryd.prog w = .ok (.string (J ++ ⟨#[44]⟩)) w := fun w => run_string_add_sum w _ _ (by rw [show (⟨#[44]⟩ : ByteArray).size = 1 from rfl]; omega)
          have hsum2 : ∀ w, (Op.stringOp .add (J ++ (⟨#[44]⟩ : ByteArray)) x).run Tryd.prog w = .ok (.string (J ++ ⟨#[44]⟩ ++ x)) w := fun w => run_string_add_sum w _ _ (by rw [ByteArray.size_append, show (⟨#[44]⟩ : ByteArray).size = 1 from rfl]; omega)
          go_wp2_with fail
          refine (ref_List x _ (by omega)).mono ?_; rintro e w4 ⟨A4, n4, c4, rfl, hr4, hc4, hb4⟩
          cases hp : (partsS x 44).isSome
          · clear hp
            go_wp2_with fail
            go_ret
            exact ⟨rfl, hbr.trans hb4⟩
          · have Hs := Lib.hid (Hst.out hp); clear hp
            have hbr4 := hbr.trans hb4
            have hbk4 := hbk.ext hb4
            go_wp2_with (first
              | (at_builtin; refine wpList_app _ rfl (.tmp 40) (.tmp 41) 22 rfl w4 9 _ 1 16 Tryd.underlying22 infoStr rfl (by decide) _ 1 [.string x] rfl (own_lit w4 #[.string x] 9 rfl 1 1 rfl (by simp [maxLen])) _ k c' _ rfl (hbk4.alloc _) (strCells_one _) ((Ext.refl w4).alloc _) (by omega) (by decide) ?_; intro A5 c5 w5 hown5 hb5 hle5))
            rw [Nat.add_comm 1 k] at hown5
            go_roundw
            case rel => exact ⟨k + 1, A5, c5, by omega, by go_num, by rw [Hjo.out], by rw [Nat.add_comm 1 k], by unfold RdS; rw [Hrv.out]; exact Rd.of_own hown5, Hs.out, hbr4.trans hb5⟩
            case measure => simp [intOf]; omega
      · obtain rfl : k = n := by omega
        have he : V.take k = V := List.take_of_length_le (by have := Hl.out; omega)
        rw [he] at Hok hbk
        rw [he]
        clear he
        have Hjoin := Lib.hid (dirs_join Hok.out)
        have Hrev := Lib.hid (dirs_rev Hok.out)
        have hjs := joinC_size V
        have hjz : (joinC V).size ≤ 3000 := by omega
        generalize joinC V = J at *
        clear hjs
        go_wp2_with fail
        refine (law_Fields A k c V _ (hr.ext hbr) (by omega)).mono ?_; rintro e w3 ⟨A3, c3, rfl, hf3, hc3, hb3⟩
        have hbw3 := hbr.trans hb3
        go_wp2_with fail
        refine (dir_Parse _ _ _ _ _ hf3 (by omega) (bsz_flds (fun v hv => by have := Hv.out v hv; omega) (by decide)) (hg.ext hbw3)).mono ?_; rintro e w4 ⟨rfl, hb4⟩
        rw [all_flds]
        have hbw4 := hbw3.trans hb4
        go_upto_region 17 with (first
          | (refine wpList_storeB rfl 28 (.tmp 9) (.tmp 46) rfl rfl w4.heap.size _ rfl rfl 28 _ (Blk.new w4 _ _) infoDp rfl (dArr_one _) ?_; intro w5 hB5 hx5))
        have hbw5 := (hbw4.alloc (.cells (dArr zeroD) 28)).growB hx5 hbw4.size
        have hR5 := hB5
        have hbk5 := hbk.ext (((hb3.trans hb4).alloc (.cells (dArr zeroD) 28)).growB hx5 (hb3.trans hb4).size)
        have heq := eqlP (dirS V)
        have hbz : ∀ v ∈ V.reverse, v.size ≤ 1048576 := fun v hv => by have := Hv.out v (List.mem_reverse.1 hv); omega
        have Hbz := Lib.hid hbz; clear hbz
        generalize dirS V = DV at *
        generalize w4.heap.size = g at *
        unfold dArr at heq
        have HR5 := Lib.hid hR5; clear hR5
        go_region_held3 (fun w' => w'.cell? ⟨g, 0, none⟩ = some (.bool DV.b0) ∧ w'.cell? ⟨g, 1, none⟩ = some (.bool DV.b1) ∧ w'.cell? ⟨g, 2, none⟩ = some (.bool DV.b2) ∧ w'.cell? ⟨g, 3, none⟩ = some (.bool DV.b3) ∧ w'.cell? ⟨g, 4, none⟩ = some (.bool DV.b4) ∧ w'.cell? ⟨g, 5, none⟩ = some (.bool DV.b5) ∧ w'.cell? ⟨g, 6, none⟩ = some (.int .i64 DV.n0) ∧ w'.cell? ⟨g, 7, none⟩ = some (.int .i64 DV.n1) ∧ w'.cell? ⟨g, 8, none⟩ = some (.int .i64 DV.n2) ∧ w'.cell? ⟨g, 9, none⟩ = some (.int .i64 DV.n3) ∧ w'.cell? ⟨g, 10, none⟩ = some (.int .i64 DV.n4) ∧ w'.cell? ⟨g, 11, none⟩ = some (.int .i64 DV.n5)) (first | exact c12 HR5.out | exact c12 hR6.out | exact c12 hR7.out | exact c12 hR8.out | exact c12 hR9.out | exact c12 (HR5.out.ext ((Ext.refl _).alloc _).drew))
          (first
          | (go_at_call_of 15 c'; refine (law_Fields A' k c' V.reverse _ ?_ (by omega)).mono ?_; exact hbk7; rintro e w8 ⟨A8, c8, rfl, hf8, hc8, hb8⟩; have hR8 := Lib.hid (hR7.out.ext hb8); have hbw8 := hbw7.trans hb8)
          | (go_at_call_of 14 c8; refine (dir_Parse _ _ _ _ _ hf8 (by omega) (bsz_flds Hbz.out (by decide)) (hg.ext hbw8)).mono ?_; rintro e w9 ⟨rfl, hb9⟩; rw [all_flds, Hrev.out]; unfold dArr; have hR9 := Lib.hid (hR8.out.ext hb9); have hbw9 := hbw8.trans hb9)
          | (go_at_call 15; refine (law_Fields _ 1 1 [J] _ (Rd.one _ _ _ (by simp)).drew (by decide)).mono ?_; rintro e w6 ⟨A6, c6, rfl, hf6, hc6, hb6⟩; have hR6 := Lib.hid (HR5.out.ext (((Ext.refl _).alloc _).drew.trans hb6)); have hbw6 := (hbw5.alloc _).drew.trans hb6; have hbk6 := hbk5.ext (((Ext.refl _).alloc _).drew.trans hb6))
          | (go_at_call_of 14 c6; refine (dir_Parse _ _ _ _ _ hf6 (by decide) (bsz_flds (fun v hv => by simp only [List.mem_singleton] at hv; subst hv; omega) (by decide)) (hg.ext hbw6)).mono ?_; rintro e w7 ⟨rfl, hb7⟩; rw [all_flds, Hjoin.out]; unfold dArr; have hR7 := Lib.hid (hR6.out.ext hb7); have hbw7 := hbw6.trans hb7; have hbk7 := hbk6.ext hb7))
        all_goals
          go_wp2_with fail
          go_ret
          exact ⟨rfl, hbw9⟩
  · go_wp2_with fail
    refine (law_large A n c V _ (hr.ext hb1) hb).mono ?_; rintro e w2 ⟨rfl, hb2⟩
    go_wp2_with fail
    go_ret
    exact ⟨rfl, hb1.trans hb2⟩
end Go.Proofs.YtaebbnadmfbdjaaDoor
