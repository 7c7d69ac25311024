
/- The walk of upper; the walk of DirectiveCases: it returns true. -/
import Derived.Test.YtaebbnadmfbdjaaDoorL11j
import Derived.Test.YtaebbnadmfbdjaaDoorPl11b
set_option linter.unusedSimpArgs false
set_option linter.unusedVariables false
namespace Go.Proofs.YtaebbnadmfbdjaaDoor
open Go.RowKit

def upL (l : List UInt8) : List UInt8 := l.map upC
def upAt (s : ByteArray) (k j : Nat) : Int := if j < k then (upC (s.data.toList.getD j 0)).toNat else (s.data.toList.getD j 0).toNat
theorem upAt_zero (s : ByteArray) (j : Nat) (h : j < s.data.toList.length) : upAt s 0 j = (s.data.toList[j].toNat : Int) := by
  simp [upAt, List.getD_eq_getElem?_getD, List.getElem?_eq_getElem h]
theorem upAt_self (s : ByteArray) (k : Nat) : upAt s k k = (s.data.toList.getD k 0).toNat := by simp [upAt]
theorem upAt_same (s : ByteArray) (k j : Nat) (h : j ≠ k) : upAt s (k + 1) j = upAt s k j := by
  unfold upAt
  by_cases h1 : j < k
  · rw [if_pos h1, if_pos (by omega)]
  · rw [if_neg h1, if_neg (by omega)]
theorem upAt_next (s : ByteArray) (k : Nat) : upAt s (k + 1) k = (upC (s.data.toList.getD k 0)).toNat := by simp [upAt]
theorem upAt_end (s : ByteArray) (k j : Nat) (h : j < k) (hj : j < (upL s.data.toList).length) : upAt s k j = ((upL s.data.toList)[j].toNat : Int) := by
  have hj' : j < s.data.toList.length := by simpa [upL] using hj
  rw [upAt, if_pos h, List.getD_eq_getElem?_getD, List.getElem?_eq_getElem hj']
  simp [upL]
theorem upC_yes (c : UInt8) (h1 : (97 : Int) ≤ c.toNat) (h2 : (c.toNat : Int) ≤ 122) : ((upC c).toNat : Int) = c.toNat - 32 := by
  have h : (97 ≤ c && c ≤ 122) = true := by simp [UInt8.le_iff_toNat_le]; omega
  rw [upC, if_pos h, UInt8.toNat_sub_of_le _ _ (by rw [UInt8.le_iff_toNat_le]; simp; omega)]
  simp
  omega
theorem upC_no (c : UInt8) (h : ¬ ((97 : Int) ≤ c.toNat ∧ (c.toNat : Int) ≤ 122)) : upC c = c := by
  have h : ¬ (97 ≤ c && c ≤ 122) = true := by simp [UInt8.le_iff_toNat_le]; omega
  rw [upC, if_neg h]
theorem up_step_yes {s : ByteArray} {k B : Nat} {wr : World} (lt : k < s.size) (hc : ∀ j, j < s.size → wr.cell? ⟨B, j, none⟩ = some (.int .u8 (upAt s k j)))
    (hf : ∀ j, j < s.size → wr.frozen? ⟨B, j, none⟩ = false) (hy : ((upC s.data[k]).toNat : Int) = s.data[k].toNat - 32) :
    (∀ j, j < s.size → (wr.setCell ⟨B, k, none⟩ (.int .u8 (s.data[k].toNat - 32))).cell? ⟨B, j, none⟩ = some (.int .u8 (upAt s (k + 1) j))) ∧
    (∀ j, j < s.size → (wr.setCell ⟨B, k, none⟩ (.int .u8 (s.data[k].toNat - 32))).frozen? ⟨B, j, none⟩ = false) := by
  refine ⟨fun j hj => ?_, fun j hj => by rw [World.frozen?_setCell]; exact hf j hj⟩
  by_cases hjk : j = k
  · subst hjk
    rw [World.cell?_setCell_same _ _ _ (hc j hj), upAt_next, List.getD_eq_getElem?_getD, List.getElem?_eq_getElem (show j < s.data.toList.length from hj)]
    simp only [Option.getD_some, Array.getElem_toList]
    rw [hy]
  · rw [World.cell?_setCell_other _ _ _ _ (by intro e; injection e with _ e; exact hjk e.symm), hc j hj, upAt_same s k j hjk]
theorem up_step_no {s : ByteArray} {k B : Nat} {wr : World} (lt : k < s.size) (hc : ∀ j, j < s.size → wr.cell? ⟨B, j, none⟩ = some (.int .u8 (upAt s k j)))
    (hn : upC s.data[k] = s.data[k]) : ∀ j, j < s.size → wr.cell? ⟨B, j, none⟩ = some (.int .u8 (upAt s (k + 1) j)) := by
  intro j hj
  by_cases hjk : j = k
  · subst hjk
    rw [hc j hj, upAt_next, upAt_self, List.getD_eq_getElem?_getD, List.getElem?_eq_getElem (show j < s.data.toList.length from hj)]
    simp only [Option.getD_some, Array.getElem_toList]
    rw [hn]
  · rw [hc j hj, upAt_same s k j hjk]

set_option maxHeartbeats 1000000 in
theorem law_upper (s : ByteArray) (w : World) (hs : s.size ≤ 9223372036854775807) :
    Calls Tryd.prog 20 #[.string s] w fun e w' => e = .returned (.string (upS s)) ∧ Ext w w' := by
  go_enter Tryd.func20, Tryd.ntmps20
  have hb := fun w => run_bytes_of_string (P := Tryd.prog) w 9 59 5 s Tryd.underlying9 Tryd.underlying59 Tryd.underlying5
  go_wp2_with fail
  clear hb
  generalize hcap : grownCap w s.size 0 5 = cap
  have hcs : s.size ≤ cap := by rw [← hcap]; exact grownCap_ge _ _ _ _
  clear hcap
  go_loopw [9] (fun i wr => ∃ k : Nat, k ≤ s.size ∧ i = .int .i64 k ∧ Below w.heap.size w wr ∧ (∀ j, j < s.size → wr.cell? ⟨w.heap.size, j, none⟩ = some (.int .u8 (upAt s k j))) ∧ (∀ j, j < s.size → wr.frozen? ⟨w.heap.size, j, none⟩ = false)) (fun i _ => s.size - (intOf i).toNat)
  case atStart =>
    refine ⟨0, Nat.zero_le _, rfl, ((Below.refl _ _).alloc (Nat.le_refl _) _).drew, fun j hj => ?_, fun j hj => ?_⟩
    · show (w.alloc _).cell? _ = _
      rw [World.cell?_alloc_mark, bytesRow_at s cap j hj, upAt_zero s j hj]
      rfl
    · show (w.alloc _).frozen? _ = _
      rw [World.frozen?_alloc_mark]
      have : j < (bytesRow s cap).size := by simp [bytesRow]; omega
      simp; omega
  case round =>
    obtain ⟨k, hk, rfl, hbel, hcell, hfr⟩ := hrel
    by_cases hlt : k < s.size
    · have hc := hcell k hlt
      have hf := hfr k hlt
      have Hcell := Lib.hid hcell; clear hcell
      have Hfr := Lib.hid hfr; clear hfr
      rw [upAt_self] at hc
      go_wp2
      · have h1 : (97 : Int) ≤ (s.data[k].toNat : Int) := by assumption
        have h2 : (s.data[k].toNat : Int) ≤ 122 := by assumption
        have hy := upC_yes s.data[k] h1 h2
        have ha := up_step_yes (lt := hlt) Hcell.out Hfr.out hy
        go_roundw
        case rel => exact ⟨k + 1, by omega, by go_num, hbel.setCell (Nat.le_refl _) _, ha.1, ha.2⟩
        case measure => simp [intOf]; omega
      all_goals
        have hn : upC s.data[k] = s.data[k] := upC_no _ (by omega)
        have ha := up_step_no hlt Hcell.out hn
        go_roundw
        case rel => exact ⟨k + 1, by omega, by go_num, hbel, ha, Hfr.out⟩
        case measure => simp [intOf]; omega
    · have hk' : k = s.size := by omega
      subst hk'
      have hback := run_convert_bytes_back (P := Tryd.prog) wr 59 9 5 ⟨w.heap.size, 0, none⟩ cap (upL s.data.toList) Tryd.underlying59 Tryd.underlying5 Tryd.underlying9
        (fun j hj => by rw [add_plain, Nat.zero_add, hcell j (by simpa [upL] using hj), upAt_end s s.size j (by simpa [upL] using hj) hj])
      rw [show (upL s.data.toList).length = s.size by simp [upL]] at hback
      clear hcell hfr
      go_wp2
      go_ret
      exact ⟨rfl, hbel⟩

/-- An own row is kept where another row grows. -/
theorem own_keep {w w' : World} {base e k n : Nat} {v : Value} {xs : List Value} {row : Option Nat} (h : w.ownsRow base e k v n xs) (hg : w.grownBy w' row) (hne : ∀ b, v.ownBlock = some b → row ≠ some b) : w'.ownsRow base e k v n xs := by
  refine ⟨h.1, ?_⟩
  rcases h.2 with hn | ⟨g, cap, cur, rfl, hbb, hgg, rest⟩
  · exact .inl hn
  · refine .inr ⟨g, cap, cur, rfl, hbb, ?_, rest⟩
    rw [hg.block g (Array.getElem?_eq_some_iff.1 hgg).1 (fun e => hne g rfl e.symm)]
    exact hgg
/-- Two own rows lie in different blocks. -/
def Dj (u v : Value) : Prop := ∀ b, u.ownBlock = some b → v.ownBlock ≠ some b
theorem Dj.symm {u v : Value} (h : Dj u v) : Dj v u := fun b h1 h2 => h b h2 h1
theorem Dj.next {w : World} {base e k n : Nat} {u v v' : Value} {xs : List Value} (h : Dj u v) (hu : w.ownsRow base e k u n xs) (ho : v'.ownBlock = v.ownBlock ∨ v'.ownBlock = some w.heap.size) : Dj u v' := by
  intro b hb
  rcases ho with ho | ho
  · rw [ho]; exact h b hb
  · rw [ho]
    have := (hu.lt b hb).2
    intro e; injection e with e; omega
theorem nil_own : (Value.slice none 0 0).ownBlock = none := rfl

set_option maxHeartbeats 2000000 in
set_option maxRecDepth 100000 in
theorem cases_walk (A : Option Addr) (n c : Nat) (V : List ByteArray) (w : World) (hr : RdS w A n V) (hb : V.length + totS V ≤ 1048576) (hg : Gl w) :
    Calls Tryd.prog 5 #[.slice A n c] w fun e w' => e = .returned (.bool true) ∧ Ext w w' := by
  have hl := hr.lenS
  have Hl := Lib.hid hl; clear hl
  have hn : n ≤ 1048576 := by have := Hl.out; omega
  go_enter Tryd.func5, Tryd.ntmps5
  go_wp2_with fail
  refine (law_large A n c V _ hr hb).mono ?_; rintro e w1 ⟨rfl, hb1⟩
  cases hlg : lgS V
  · have hsm := lg_no hlg
    clear hlg hb
    have hn : n ≤ 3000 := by have := Hl.out; omega
    have Hv := Lib.hid (show ∀ v ∈ V, v.size ≤ 3000 from fun v h => by have := totS_mem h; omega)
    go_wp2_with fail
    refine (law_awake _ (hg.ext hb1)).mono ?_; rintro e w2 ⟨rfl, hb2⟩
    have hbw2 := hb1.trans hb2
    go_wp2_with fail
    go_loopw [3, 4, 18] (fun u v i wr => ∃ k p q A' c' B' d', k ≤ n ∧ p ≤ 3000 ∧ q ≤ 6000 ∧ p ≤ k ∧ q ≤ 2 * k ∧ i = .int .i64 (k : Nat) ∧ u = .slice A' p c' ∧ v = .slice B' q d' ∧ wr.ownsRow w2.heap.size 9 1 (.slice A' p c') p (strCells ((V.take k).map upS)) ∧ wr.ownsRow w2.heap.size 9 1 (.slice B' q d') q (strCells (moreL (V.take k))) ∧ Dj (.slice A' p c') (.slice B' q d') ∧ p ≤ c' ∧ q ≤ d' ∧ Ext w2 wr) (fun _ _ i _ => n - (intOf i).toNat)
    case atStart => exact ⟨0, 0, 0, none, 0, none, 0, Nat.zero_le _, Nat.zero_le _, Nat.zero_le _, Nat.le_refl _, Nat.le_refl _, rfl, rfl, rfl, World.ownsRow_nil _ _ _ _, World.ownsRow_nil _ _ _ _, (fun b h => by cases h), Nat.le_refl _, Nat.le_refl _, Ext.refl _⟩
    case round =>
      obtain ⟨k, p, q, A', c', B', d', hk, hp3, hq6, hpk, hqk, rfl, rfl, rfl, hown, howm, hdj, hpc, hqd, hbr⟩ := hrel
      have hbwr := hbw2.trans hbr
      by_cases hlt : k < n
      · have hlt' : k < V.length := by have := Hl.out; omega
        obtain ⟨b, o, rfl, hc0⟩ := (hr.ext hbwr).atS hlt'
        have hvs := Hv.out V[k] (List.getElem_mem hlt')
        have Hst := Lib.hid (moreL_step hlt')
        have Hup := Lib.hid (map_step upS V k hlt')
        generalize V[k] = x at *
        have hsum : ∀ w, (Op.stringOp .add moreP x).run Tryd.prog w = .ok (.string (moreP ++ x)) w := fun w => run_string_add_sum w _ x (by rw [show moreP.size = 22 from rfl]; omega)
        unfold moreP at hsum
        go_wp2_with fail
        refine (law_upper x _ (by omega)).mono ?_; rintro e w4 ⟨rfl, hb4⟩
        have hown4 := (own_ext hown hb4).alloc (.cells #[.string (upS x)] 9)
        have howm4 := (own_ext howm hb4).alloc (.cells #[.string (upS x)] 9)
        have hbr4 := (hbr.trans hb4).alloc (.cells #[.string (upS x)] 9)
        generalize hy : upS x = y at *
        have Hy := Lib.hid hy; clear hy
        go_wp2_with (first
          | (at_builtin; refine wpList_appAt _ rfl (.tmp 22) (.tmp 25) 22 rfl w2 9 _ 1 16 Tryd.underlying22 infoStr rfl (by decide) _ _ _ rfl hown4 ⟨w4.heap.size, 0, none⟩ 1 1 [.string y] rfl rfl (cell_one_new _ _ _) (strCells_one [y]) hbr4 (by omega) (by decide) ?_; intro A5 c5 w5 hown5 hb5 hle5 hg5 ho5; have howm5 := own_keep howm4 hg5 (fun b h h2 => hdj b h2 h); have hdj5 := (hdj.symm.next howm4 ho5).symm; have howm6 := howm5.alloc (.cells #[.string (⟨#[120, 45, 109, 111, 114, 101, 61, 34, 97, 44, 32, 110, 111, 45, 115, 116, 111, 114, 101, 34, 32, 44]⟩ ++ x), .string ⟨#[105, 109, 109, 117, 116, 97, 98, 108, 101]⟩] 9); have hown6 := hown5.alloc (.cells #[.string (⟨#[120, 45, 109, 111, 114, 101, 61, 34, 97, 44, 32, 110, 111, 45, 115, 116, 111, 114, 101, 34, 32, 44]⟩ ++ x), .string ⟨#[105, 109, 109, 117, 116, 97, 98, 108, 101]⟩] 9))
          | (at_builtin; refine wpList_appAt _ rfl (.tmp 27) (.tmp 30) 22 rfl w2 9 _ 1 16 Tryd.underlying22 infoStr rfl (by decide) _ _ _ rfl howm6 ⟨w5.heap.size, 0, none⟩ 2 2 [.string (moreP ++ x), .string immV] rfl rfl (cell_two_new _ _ _ _) (strCells_one [moreP ++ x, immV]) (hb5.alloc _) (by omega) (by decide) ?_; intro A7 c7 w7 howm7 hb7 hle7 hg7 ho7; have hown7 := own_keep hown6 hg7 (fun b h h2 => hdj5 b h h2); have hdj7 := hdj5.next hown6 ho7))
        go_roundw
        case rel => exact ⟨k + 1, p + 1, q + 2, A5, c5, A7, c7, by omega, by omega, by omega, by omega, by omega, by go_num, rfl, rfl, by rw [Hup.out]; unfold strCells; rw [List.map_append]; exact hown7, by rw [Hst.out]; unfold strCells; rw [List.map_append]; exact howm7, hdj7, hle5, hle7, hb7⟩
        case measure => simp [intOf]; omega
      · obtain rfl : k = n := by omega
        have he : V.take k = V := List.take_of_length_le (by have := Hl.out; omega)
        rw [he] at hown howm
        clear he
        have Hu := Lib.hid (dirs_up V)
        have Hm := Lib.hid (dirs_more V)
        have Hbu := Lib.hid (show ∀ v ∈ V.map upS, v.size ≤ 1048576 from fun v hv => by
          obtain ⟨x, hx, rfl⟩ := List.mem_map.1 hv
          rw [upS_size]; have := Hv.out x hx; omega)
        have Hbm := Lib.hid (show ∀ v ∈ moreL V, v.size ≤ 1048576 from fun v hv => by have := moreL_bsz Hv.out (by omega) v hv; omega)
        have hru := Rd.of_own hown
        have hrm := Rd.of_own howm
        clear hown howm hdj
        generalize hU : V.map upS = U at *
        generalize hM : moreL V = M at *
        clear hU hM
        go_wp2_with fail
        refine (law_Fields A k c V _ (hr.ext hbwr) (by omega)).mono ?_; rintro e w3 ⟨A3, c3, rfl, hf3, hc3, hb3⟩
        have hbw3 := hbwr.trans hb3
        go_wp2_with fail
        refine (dir_Parse _ _ _ _ _ hf3 (by omega) (bsz_flds (fun v hv => by have := Hv.out v hv; omega) (by decide)) (hg.ext hbw3)).mono ?_; rintro e w4 ⟨rfl, hb4⟩
        rw [all_flds]
        have hbw4 := hbw3.trans hb4
        go_upto_region 11 with (first
          | (refine wpList_storeB rfl 28 (.tmp 7) (.tmp 35) rfl rfl w4.heap.size _ rfl rfl 28 _ (Blk.new w4 _ _) infoDp rfl (dArr_one _) ?_; intro w5 hB5 hx5))
        have hbw5 := (hbw4.alloc (.cells (dArr zeroD) 28)).growB hx5 hbw4.size
        have hxx := ((hb3.trans hb4).alloc (.cells (dArr zeroD) 28)).growB hx5 (hb3.trans hb4).size
        have hru5 := hru.ext hxx
        have hrm5 := hrm.ext hxx
        have heq := eqlP (dirS V)
        generalize dirS V = DV at *
        generalize w4.heap.size = g at *
        unfold dArr at heq
        have HR5 := Lib.hid hB5
        clear hB5 hxx
        go_region_held3 (fun w' => w'.cell? ⟨g, 0, none⟩ = some (.bool DV.b0) ∧ w'.cell? ⟨g, 1, none⟩ = some (.bool DV.b1) ∧ w'.cell? ⟨g, 2, none⟩ = some (.bool DV.b2) ∧ w'.cell? ⟨g, 3, none⟩ = some (.bool DV.b3) ∧ w'.cell? ⟨g, 4, none⟩ = some (.bool DV.b4) ∧ w'.cell? ⟨g, 5, none⟩ = some (.bool DV.b5) ∧ w'.cell? ⟨g, 6, none⟩ = some (.int .i64 DV.n0) ∧ w'.cell? ⟨g, 7, none⟩ = some (.int .i64 DV.n1) ∧ w'.cell? ⟨g, 8, none⟩ = some (.int .i64 DV.n2) ∧ w'.cell? ⟨g, 9, none⟩ = some (.int .i64 DV.n3) ∧ w'.cell? ⟨g, 10, none⟩ = some (.int .i64 DV.n4) ∧ w'.cell? ⟨g, 11, none⟩ = some (.int .i64 DV.n5)) (first | exact c12 HR5.out | exact c12 hR6.out | exact c12 hR7.out | exact c12 hR8.out | exact c12 hR9.out | exact c12 (HR5.out.drew))
          (first
          | (go_at_call_of 15 c'; refine (law_Fields A' p c' U _ ?_ (by omega)).mono ?_; exact hru5.drew; rintro e w6 ⟨A6, c6, rfl, hf6, hc6, hb6⟩; have hR6 := Lib.hid (HR5.out.drew.ext hb6); have hbw6 := hbw5.drew.trans hb6; have hrm6 := hrm5.drew.ext hb6)
          | (go_at_call_of 14 c6; refine (dir_Parse _ _ _ _ _ hf6 (by omega) (bsz_flds Hbu.out (by decide)) (hg.ext hbw6)).mono ?_; rintro e w7 ⟨rfl, hb7⟩; rw [all_flds, Hu.out]; unfold dArr; have hR7 := Lib.hid (hR6.out.ext hb7); have hbw7 := hbw6.trans hb7; have hrm7 := hrm6.ext hb7)
          | (go_at_call_of 15 d'; refine (law_Fields B' q d' M _ ?_ (by omega)).mono ?_; exact hrm7; rintro e w8 ⟨A8, c8, rfl, hf8, hc8, hb8⟩; have hR8 := Lib.hid (hR7.out.ext hb8); have hbw8 := hbw7.trans hb8)
          | (go_at_call_of 14 c8; refine (dir_Parse _ _ _ _ _ hf8 (by omega) (bsz_flds Hbm.out (by decide)) (hg.ext hbw8)).mono ?_; rintro e w9 ⟨rfl, hb9⟩; rw [all_flds, Hm.out]; unfold dArr; have hR9 := Lib.hid (hR8.out.ext hb9); have hbw9 := hbw8.trans hb9))
        all_goals
          go_wp2_with fail
          go_ret
          exact ⟨rfl, hbw9⟩
  · go_wp2_with fail
    refine (law_large A n c V _ (hr.ext hb1) hb).mono ?_; rintro e w2 ⟨rfl, hb2⟩
    go_wp2_with fail
    go_ret
    exact ⟨rfl, hb1.trans hb2⟩
end Go.Proofs.YtaebbnadmfbdjaaDoor
