/- Walks of functions that the proof needs, and plain laws on what they compute. No condition beyond those that each one states. -/
import Derived.Test.YtmckbcbdnckngaaGreatDoorJ3
import Derived.LaidEql
import Derived.Stop.Asserts
import Derived.RowKitTokens
import Derived.Deep.RegionHeld3
set_option maxHeartbeats 32000000
set_option maxRecDepth 100000
set_option linter.unusedSimpArgs false
set_option linter.unusedVariables false
namespace Go.Proofs.YtmckbcbdnckngaaGreatDoor
open Go.RowKit

def hitS (p : Int × Ver) (text : ByteArray) (t : Int) : Bool := p.2.addr == text && decide (p.1 ≤ t)
theorem fnd_cons (p : Int × Ver) (l : List (Int × Ver)) (text : ByteArray) (t : Int) (h : findS l text t = 0) : findS (p :: l) text t = if hitS p text t then 1 else 0 := by
 show (if findS l text t = 0 then _ else _) = _
 rw [if_pos h]; rfl
theorem fnd_step {vs : List (Int × Ver)} {k : Nat} (hk : k < vs.length) {text : ByteArray} {t : Int} (h : findS (vs.drop (k + 1)) text t = 0) (hq : hitS vs[k] text t = false) : findS (vs.drop k) text t = 0 := by
 rw [List.drop_eq_getElem_cons hk, fnd_cons _ _ _ _ h, hq]; rfl
theorem fnd_up (l : List (Int × Ver)) (p : Int × Ver) (text : ByteArray) (t : Int) {j : Nat} (h : findS l text t = j + 1) : findS (p :: l) text t = j + 2 := by
 show (if findS l text t = 0 then _ else _) = _
 rw [if_neg (by omega), h]
theorem fnd_hit : ∀ {vs : List (Int × Ver)} {k : Nat} (hk : k < vs.length) {text : ByteArray} {t : Int} (_ : findS (vs.drop (k + 1)) text t = 0) (_ : hitS vs[k] text t = true), findS vs text t = k + 1
 | p :: l, 0, _, text, t, h, hq => by rw [fnd_cons p l text t (by simpa using h)]; rw [show hitS p text t = true from hq]; rfl
 | p :: l, k + 1, hk, text, t, h, hq => fnd_up l p text t (fnd_hit (k := k) (by simpa using hk) (by simpa using h) (by simpa using hq))
theorem OrgP.vs_at {w : World} {p : Nat} {R Q : Nat → Prop} {o : Org} {M : OM} (h : OrgP w p R Q o M) {i : Nat} (hi : i < o.vs.length) (hm : i < M.mv.length) : o.vs[i] = (M.mv[i].1, M.mv[i].2.ver) := by
 have h1 : (M.mv.map (fun x => (x.1, x.2.ver)))[i]? = o.vs[i]? := congrArg (·[i]?) h.ver
 rw [List.getElem?_map, List.getElem?_eq_getElem hm, List.getElem?_eq_getElem hi] at h1
 simp only [Option.map_some, Option.some.injEq] at h1
 exact h1.symm
theorem or_find (Q R : Nat → Prop) (p : Nat) (o : Org) (M : OM) (text : ByteArray) (t : Int) (w : World) (hO : OrgP w p R Q o M) :
  Calls Tryz.prog 66 #[.pointer (some ⟨p, 0, none⟩), .string text, .int .i64 t] w fun e w' => e = .returned (.int .i64 (findS o.vs text t : Nat)) ∧ Ext w w' := by
 have HO := zi hO
 obtain ⟨hn1, hn2⟩ := hO.vsn
 have hfew := hO.few
 obtain ⟨⟨vsA, vsn, vsc⟩, br, lg, mv⟩ := M
 obtain ⟨n, hn⟩ : ∃ n, o.vs.length = n := ⟨_, rfl⟩
 have hvn : n = vsn := (hn1.trans hn).symm
 subst hvn
 have HP0 := zi (fun w' (h : Ext w w') => (show w'.cell? ⟨p, 0, none⟩ = some (.slice vsA n vsc) from (HO.out.blk.ext h).cell 0))
 have Hhit := zi (fun k hk => @fnd_hit o.vs k hk text t)
 have Hstep := zi (fun k hk => @fnd_step o.vs k hk text t)
 have H0 := zi (show findS (o.vs.drop o.vs.length) text t = 0 by rw [List.drop_of_length_le (Nat.le_refl _)]; rfl)
 have Hn := zi hn; have Hn2 := zi hn2
 rw [hn] at hfew
 obtain ⟨FV, hFV⟩ : ∃ FV : Nat, findS o.vs text t = FV := ⟨_, rfl⟩
 have HFV := zi hFV
 rw [hFV]
 rw [hFV] at Hhit
 clear hO hn1 hn2 hn hFV
 have p0 := HP0.out w (Ext.refl w)
 have hwn : IntKind.i64.wrap (-1) = -1 := by decide
 have START : ∃ s : Int, IntKind.i64.wrap ((n : Int) - 1) = s ∧ (n = 0 ∧ s = -1 ∨ ∃ j : Nat, n = j + 1 ∧ s = j) := by
  rcases Nat.eq_zero_or_pos n with h | h
  ·exact ⟨-1, by rw [h]; decide, .inl ⟨h, rfl⟩⟩
  ·exact ⟨((n - 1 : Nat) : Int), by rw [IntWalk.i64_in _ (by omega)]; omega, .inr ⟨n - 1, by omega, rfl⟩⟩
 obtain ⟨s, hs, hs2⟩ := START
 have Hs2 := zi hs2
 clear hs2
 go_enter Tryz.func66, Tryz.ntmps66
 go_wp2_with fail
 go_loopw [7] (fun i wr => ∃ k : Nat, k ≤ n ∧ (k = 0 ∧ i = .int .i64 (-1) ∨ ∃ j : Nat, k = j + 1 ∧ i = .int .i64 (j : Nat)) ∧ findS (o.vs.drop k) text t = 0 ∧ Ext w wr) (fun i _ => (intOf i + 1).toNat)
 case atStart =>
  refine ⟨n, Nat.le_refl _, ?_, by have := H0.out; rw [Hn.out] at this; exact this, Ext.refl _⟩
  rcases Hs2.out with ⟨h1, rfl⟩ | ⟨j, h1, rfl⟩
  ·exact .inl ⟨h1, rfl⟩
  ·exact .inr ⟨j, h1, rfl⟩
 case round =>
  obtain ⟨k, hk, hi, hf, hbr⟩ := hrel
  rcases hi with ⟨rfl, rfl⟩ | ⟨j, rfl, rfl⟩
  ·go_wp2_with fail
   go_ret
   exact ⟨by rw [← HFV.out, show findS o.vs text t = 0 from hf]; rfl, hbr⟩
  ·have hjv : j < o.vs.length := by have := Hn.out; omega
   have hjm : j < mv.length := by have h1 : mv.length = o.vs.length := Hn2.out; omega
   obtain ⟨g, hA, c0, c1, c2, c3, c4, c5⟩ := (HO.out.ext hbr).at_ hjm
   have hvj := HO.out.vs_at hjv hjm
   simp only at hA c0 c1 c2 c3 c4 c5 hvj
   have Hh := zi (Hhit.out j hjv hf); have Hst := zi (Hstep.out j hjv hf)
   rw [hvj] at Hh Hst
   have p0 := HP0.out _ hbr
   clear hvj hf hjv
   generalize mv[j] = x at *
   obtain ⟨at_, addr, status, f, body, vars, ⟨fA, fn, fc⟩, ⟨bA, bn, bc⟩, ⟨vA, vn, vc⟩⟩ := x
   simp only [Sl.v, MV.ver, hitS] at *
   subst hA
   clear hjm
   have HB := zi (Blk.new wr 103 #[.int .i64 at_, .string addr, .int .i64 status, .slice fA fn fc, .slice bA bn bc, .slice vA vn vc])
   have x0 : (wr.alloc (.cells #[.int .i64 at_, .string addr, .int .i64 status, .slice fA fn fc, .slice bA bn bc, .slice vA vn vc] 103)).cell? ⟨wr.heap.size, 0, none⟩ = some (.int .i64 at_) := HB.out.cell 0
   have x1 : (wr.alloc (.cells #[.int .i64 at_, .string addr, .int .i64 status, .slice fA fn fc, .slice bA bn bc, .slice vA vn vc] 103)).cell? ⟨wr.heap.size, 1, none⟩ = some (.string addr) := HB.out.cell 1
   have hE := hbr.alloc (.cells #[.int .i64 at_, .string addr, .int .i64 status, .slice fA fn fc, .slice bA bn bc, .slice vA vn vc] 103)
   have hjn : (j : Int) < n := by omega
   have hwj : IntKind.i64.wrap (j : Int) = (j : Int) := IntWalk.i64_in _ (by omega)
   have hw1 : IntKind.i64.wrap ((j : Int) + 1) = (j : Int) + 1 := IntWalk.i64_in _ (by omega)
   have NEXT : ∃ s : Int, IntKind.i64.wrap ((j : Int) - 1) = s ∧ (j = 0 ∧ s = -1 ∨ ∃ i : Nat, j = i + 1 ∧ s = i) := by
    rcases Nat.eq_zero_or_pos j with h | h
    ·exact ⟨-1, by rw [h]; decide, .inl ⟨h, rfl⟩⟩
    ·exact ⟨((j - 1 : Nat) : Int), by rw [IntWalk.i64_in _ (by omega)]; omega, .inr ⟨j - 1, by omega, rfl⟩⟩
   obtain ⟨s2, hs2, hs3⟩ := NEXT
   have Hs3 := zi hs3
   clear hs3
   rw [beqB] at Hh Hst
   by_cases ha : addr = text
   ·have hq : (addr.toList == text.toList) = true := eqS_iff.2 ha
    by_cases ht : at_ ≤ t
    ·have HV := zi (Hh.out (by simp [ha, ht]))
     clear ha Hh Hst
     go_wp2_with fail
     go_ret
     exact ⟨by rw [HV.out]; rfl, hE⟩
    ·have HV := zi (Hst.out (by simp [ht]))
     clear ha Hh Hst
     go_wp2_with fail
     first | go_roundw | refine ⟨?rel, ?measure⟩
     case rel =>
      refine ⟨j, by omega, ?_, HV.out, hE⟩
      rcases Hs3.out with ⟨h1, rfl⟩ | ⟨i, h1, rfl⟩
      ·exact .inl ⟨h1, rfl⟩
      ·exact .inr ⟨i, h1, rfl⟩
     case measure => rcases Hs3.out with ⟨h1, rfl⟩ | ⟨i, h1, rfl⟩ <;> simp [intOf] <;> omega
   ·have hq : (addr.toList == text.toList) = false := Bool.eq_false_iff.2 (fun e => ha (eqS_iff.1 e))
    have HV := zi (Hst.out (by simp [ha]))
    clear ha Hh Hst
    go_wp2_with fail
    first | go_roundw | refine ⟨?rel, ?measure⟩
    case rel =>
     refine ⟨j, by omega, ?_, HV.out, hE⟩
     rcases Hs3.out with ⟨h1, rfl⟩ | ⟨i, h1, rfl⟩
     ·exact .inl ⟨h1, rfl⟩
     ·exact .inr ⟨i, h1, rfl⟩
    case measure => rcases Hs3.out with ⟨h1, rfl⟩ | ⟨i, h1, rfl⟩ <;> simp [intOf] <;> omega

theorem or_brief (w : World) : Calls Tryz.prog 67 #[] w fun e w' => ∃ s : Sl, e = .returned s.v ∧ s.n = 1 ∧ RS (fun i => i < w.heap.size) w' 2 s (fldCells brief) ∧ Ext w w' := by
 go_enter Tryz.func67, Tryz.ntmps67
 go_wp2_with fail
 go_ret
 refine ⟨⟨some ⟨w.heap.size, 0, none⟩, 1, 1⟩, rfl, rfl, ⟨Rd.lit w #[.string ⟨#[99, 97, 99, 104, 101, 45, 99, 111, 110, 116, 114, 111, 108]⟩, .string ⟨#[109, 97, 120, 45, 97, 103, 101, 61, 49]⟩] 51 rfl 2 1 rfl, fun _ a ha hb => ?_, Nat.le_refl _⟩, (Ext.refl w).alloc _⟩
 simp only [Option.some.injEq] at ha
 subst ha
 simp at hb

theorem kq (c x : ByteArray) : (c == x) = (x.toList == c.toList) := by
 rw [beqB, Bool.eq_iff_iff, decide_eq_true_eq, eqS_iff]
 exact ⟨fun h => h.symm, fun h => h.symm⟩
theorem kpt_yes {fs : List Fd} {k : Nat} (h : k < fs.length) (hy : (keptN.any (· == fs[k].1)) = true) : kptS (fs.take (k + 1)) = kptS (fs.take k) ++ [fs[k]] := by
 unfold kptS; rw [take_step fs k h, List.filter_append, List.filter_cons, if_pos hy]; rfl
theorem kpt_no {fs : List Fd} {k : Nat} (h : k < fs.length) (hy : (keptN.any (· == fs[k].1)) = false) : kptS (fs.take (k + 1)) = kptS (fs.take k) := by
 unfold kptS; rw [take_step fs k h, List.filter_append, List.filter_cons, if_neg (by simp [hy])]; simp
theorem kpt_len (fs : List Fd) (k : Nat) : (kptS (fs.take k)).length ≤ k := by
 unfold kptS
 exact Nat.le_trans (List.length_filter_le _ _) (by rw [List.length_take]; omega)
theorem kept_q (x : ByteArray) : keptN.any (· == x) = ((x.toList == [99, 97, 99, 104, 101, 45, 99, 111, 110, 116, 114, 111, 108]) || (x.toList == [101, 116, 97, 103]) || (x.toList == [101, 120, 112, 105, 114, 101, 115]) || (x.toList == [108, 97, 115, 116, 45, 109, 111, 100, 105, 102, 105, 101, 100]) || (x.toList == [115, 117, 114, 114, 111, 103, 97, 116, 101, 45, 107, 101, 121]) || (x.toList == [118, 97, 114, 121])) := by
 unfold keptN
 simp only [List.any_cons, List.any_nil, Bool.or_false, kq]
 rw [show x_cc.toList = [99, 97, 99, 104, 101, 45, 99, 111, 110, 116, 114, 111, 108] by rw [ByteArray.toList_eq]; rfl, show x_et.toList = [101, 116, 97, 103] by rw [ByteArray.toList_eq]; rfl, show x_ex.toList = [101, 120, 112, 105, 114, 101, 115] by rw [ByteArray.toList_eq]; rfl, show x_lm.toList = [108, 97, 115, 116, 45, 109, 111, 100, 105, 102, 105, 101, 100] by rw [ByteArray.toList_eq]; rfl, show x_sk.toList = [115, 117, 114, 114, 111, 103, 97, 116, 101, 45, 107, 101, 121] by rw [ByteArray.toList_eq]; rfl, show x_va.toList = [118, 97, 114, 121] by rw [ByteArray.toList_eq]; rfl]
 simp only [Bool.or_assoc]
theorem or_kept (A : Option Addr) (n c : Nat) (fs : List Fd) (w : World) (hf : RdF w A n fs) (hn : n ≤ 1073741824) :
  Calls Tryz.prog 109 #[.slice A n c] w fun e w' => ∃ s : Sl, e = .returned s.v ∧ RS (fun i => i < w.heap.size) w' 2 s (fldCells (kptS fs)) ∧ Ext w w' := by
 have hl := hf.lenF
 have Hl := zi hl; clear hl
 go_enter Tryz.func109, Tryz.ntmps109
 go_wp2_with fail
 go_loopw [3, 8] (fun v i wr => ∃ k m A' c', k ≤ n ∧ i = .int .i64 (k : Nat) ∧ v = .slice A' m c' ∧ wr.ownsRow w.heap.size 51 2 (.slice A' m c') m (fldCells (kptS (fs.take k))) ∧ m ≤ c' ∧ m ≤ k ∧ Ext w wr) (fun _ i _ => n - (intOf i).toNat)
 case atStart => exact ⟨0, 0, none, 0, Nat.zero_le _, rfl, rfl, World.ownsRow_nil _ _ _ _, Nat.le_refl _, Nat.le_refl _, Ext.refl _⟩
 case round =>
  obtain ⟨k, m, A', c', hk, rfl, rfl, hown, hmc, hmk, hbr⟩ := hrel
  by_cases hlt : k < n
  ·have hlt' : k < fs.length := by have := Hl.out; omega
   obtain ⟨b, o, rfl, hc0, hc1⟩ := (hf.ext hbr).atF hlt'
   have Hy := zi (fun h => kpt_yes hlt' h); have Hno := zi (fun h => kpt_no hlt' h)
   rw [kept_q] at Hy Hno
   generalize hx : fs[k] = x at *
   obtain ⟨nm, vl⟩ := x
   simp only at hc0 hc1
   have HB := zi (Blk.new wr 51 #[.string nm, .string vl])
   have x0 : (wr.alloc (.cells #[.string nm, .string vl] 51)).cell? ⟨wr.heap.size, 0, none⟩ = some (.string nm) := HB.out.cell 0
   have x1 : (wr.alloc (.cells #[.string nm, .string vl] 51)).cell? ⟨wr.heap.size, 1, none⟩ = some (.string vl) := HB.out.cell 1
   have hE := hbr.alloc (.cells #[.string nm, .string vl] 51)
   have hown2 := hown.alloc (.cells #[.string nm, .string vl] 51)
   clear hx
   cases q0 : (nm.toList == [99, 97, 99, 104, 101, 45, 99, 111, 110, 116, 114, 111, 108])
   rotate_left
   ·have Hs := zi (Hy.out (by simp [q0]))
    clear Hy Hno
    go_wp2_with (at_builtin; refine wpList_app _ rfl _ _ 33 rfl w 51 _ 2 32 Tryz.underlying33 info_cln_F (by simp [Value.cells]) (by decide) _ _ _ rfl (hown2.alloc _) _ 1 1 (fldCells [(nm, vl)]) rfl (Rd.two _ _ _ _ (by simp)) (fldCells_one [(nm, vl)]) (hE.alloc _) (by omega) (by decide) ?_; intro A7 c7 w7 hown7 hb7 hle7)
    first | go_roundw | refine ⟨?rel, ?measure⟩
    case rel => exact ⟨k + 1, m + 1, A7, c7, by omega, by go_num, rfl, by rw [Hs.out, fldCells_app]; exact hown7, hle7, by omega, hb7⟩
    case measure => simp [intOf]; omega
   cases q1 : (nm.toList == [101, 116, 97, 103])
   rotate_left
   ·have Hs := zi (Hy.out (by simp [q0, q1]))
    clear Hy Hno
    go_wp2_with (at_builtin; refine wpList_app _ rfl _ _ 33 rfl w 51 _ 2 32 Tryz.underlying33 info_cln_F (by simp [Value.cells]) (by decide) _ _ _ rfl (hown2.alloc _) _ 1 1 (fldCells [(nm, vl)]) rfl (Rd.two _ _ _ _ (by simp)) (fldCells_one [(nm, vl)]) (hE.alloc _) (by omega) (by decide) ?_; intro A7 c7 w7 hown7 hb7 hle7)
    first | go_roundw | refine ⟨?rel, ?measure⟩
    case rel => exact ⟨k + 1, m + 1, A7, c7, by omega, by go_num, rfl, by rw [Hs.out, fldCells_app]; exact hown7, hle7, by omega, hb7⟩
    case measure => simp [intOf]; omega
   cases q2 : (nm.toList == [101, 120, 112, 105, 114, 101, 115])
   rotate_left
   ·have Hs := zi (Hy.out (by simp [q0, q1, q2]))
    clear Hy Hno
    go_wp2_with (at_builtin; refine wpList_app _ rfl _ _ 33 rfl w 51 _ 2 32 Tryz.underlying33 info_cln_F (by simp [Value.cells]) (by decide) _ _ _ rfl (hown2.alloc _) _ 1 1 (fldCells [(nm, vl)]) rfl (Rd.two _ _ _ _ (by simp)) (fldCells_one [(nm, vl)]) (hE.alloc _) (by omega) (by decide) ?_; intro A7 c7 w7 hown7 hb7 hle7)
    first | go_roundw | refine ⟨?rel, ?measure⟩
    case rel => exact ⟨k + 1, m + 1, A7, c7, by omega, by go_num, rfl, by rw [Hs.out, fldCells_app]; exact hown7, hle7, by omega, hb7⟩
    case measure => simp [intOf]; omega
   cases q3 : (nm.toList == [108, 97, 115, 116, 45, 109, 111, 100, 105, 102, 105, 101, 100])
   rotate_left
   ·have Hs := zi (Hy.out (by simp [q0, q1, q2, q3]))
    clear Hy Hno
    go_wp2_with (at_builtin; refine wpList_app _ rfl _ _ 33 rfl w 51 _ 2 32 Tryz.underlying33 info_cln_F (by simp [Value.cells]) (by decide) _ _ _ rfl (hown2.alloc _) _ 1 1 (fldCells [(nm, vl)]) rfl (Rd.two _ _ _ _ (by simp)) (fldCells_one [(nm, vl)]) (hE.alloc _) (by omega) (by decide) ?_; intro A7 c7 w7 hown7 hb7 hle7)
    first | go_roundw | refine ⟨?rel, ?measure⟩
    case rel => exact ⟨k + 1, m + 1, A7, c7, by omega, by go_num, rfl, by rw [Hs.out, fldCells_app]; exact hown7, hle7, by omega, hb7⟩
    case measure => simp [intOf]; omega
   cases q4 : (nm.toList == [115, 117, 114, 114, 111, 103, 97, 116, 101, 45, 107, 101, 121])
   rotate_left
   ·have Hs := zi (Hy.out (by simp [q0, q1, q2, q3, q4]))
    clear Hy Hno
    go_wp2_with (at_builtin; refine wpList_app _ rfl _ _ 33 rfl w 51 _ 2 32 Tryz.underlying33 info_cln_F (by simp [Value.cells]) (by decide) _ _ _ rfl (hown2.alloc _) _ 1 1 (fldCells [(nm, vl)]) rfl (Rd.two _ _ _ _ (by simp)) (fldCells_one [(nm, vl)]) (hE.alloc _) (by omega) (by decide) ?_; intro A7 c7 w7 hown7 hb7 hle7)
    first | go_roundw | refine ⟨?rel, ?measure⟩
    case rel => exact ⟨k + 1, m + 1, A7, c7, by omega, by go_num, rfl, by rw [Hs.out, fldCells_app]; exact hown7, hle7, by omega, hb7⟩
    case measure => simp [intOf]; omega
   cases q5 : (nm.toList == [118, 97, 114, 121])
   rotate_left
   ·have Hs := zi (Hy.out (by simp [q0, q1, q2, q3, q4, q5]))
    clear Hy Hno
    go_wp2_with (at_builtin; refine wpList_app _ rfl _ _ 33 rfl w 51 _ 2 32 Tryz.underlying33 info_cln_F (by simp [Value.cells]) (by decide) _ _ _ rfl (hown2.alloc _) _ 1 1 (fldCells [(nm, vl)]) rfl (Rd.two _ _ _ _ (by simp)) (fldCells_one [(nm, vl)]) (hE.alloc _) (by omega) (by decide) ?_; intro A7 c7 w7 hown7 hb7 hle7)
    first | go_roundw | refine ⟨?rel, ?measure⟩
    case rel => exact ⟨k + 1, m + 1, A7, c7, by omega, by go_num, rfl, by rw [Hs.out, fldCells_app]; exact hown7, hle7, by omega, hb7⟩
    case measure => simp [intOf]; omega
   have Hs := zi (Hno.out (by simp [q0, q1, q2, q3, q4, q5]))
   clear Hy Hno
   go_wp2_with fail
   first | go_roundw | refine ⟨?rel, ?measure⟩
   case rel => exact ⟨k + 1, m, A', c', by omega, by go_num, rfl, by rw [Hs.out]; exact hown2, hmc, by omega, hE⟩
   case measure => simp [intOf]; omega
  ·obtain rfl : k = n := by omega
   go_wp2_with fail
   go_ret
   obtain ⟨s, hs, hsn, hr⟩ := RS.own hown
   refine ⟨s, by rw [← hs]; rfl, ?_, hbr⟩
   rw [List.take_of_length_le (by have := Hl.out; omega)] at hr
   exact hr
end Go.Proofs.YtmckbcbdnckngaaGreatDoor

namespace Go.Proofs.YtmckbcbdnckngaaGreatDoor
open Go.RowKit

theorem infoSt : (Tryz.prog.info? 187).map (·.size) = some 6 := by kernel_rfl
theorem far_cell {w : World} {b b' i j : Nat} {v u : Value} (h : w.cell? ⟨b, i, none⟩ = some v) (hne : b' ≠ b) : (w.setCell ⟨b', j, none⟩ u).cell? ⟨b, i, none⟩ = some v :=
 (World.cell?_setCell_other _ _ _ _ (by intro e; injection e with e1; exact hne (by omega))).trans h
theorem stS_eq (fs : List Fd) : stArr (stS fs) = #[.bool true, .bool ((getO fs x_et).bind tagS).isSome, .bool ((getO fs x_lm).bind dateP).isSome, .bool (((getO fs x_et).bind tagS).getD (false, ⟨#[]⟩)).1, .string (((getO fs x_et).bind tagS).getD (false, ⟨#[]⟩)).2, .int .i64 (((getO fs x_lm).bind dateP).getD 0)] := rfl
theorem or_state (A : Option Addr) (n c : Nat) (fs : List Fd) (w : World) (hf : RdF w A n fs) (hn : n ≤ 1048576) (hT : sumF fs + 2 * n ≤ 1048576) (hg : GlH w) :
  Calls Tryz.prog 107 #[.slice A n c] w fun e w' => e = .returned (.agg (stArr (stS fs))) ∧ Ext w w' := by
 have hbz := bszF fs
 have hbz2 : Bsz 1048576 fs := fun f hf => ⟨by have := (hbz f hf).1; omega, by have := (hbz f hf).2; omega⟩
 have G1 := zi (fun w' (h : Ext w w') => field_GetO A n c fs x_et w' (hf.ext h) (by omega) (by decide) hbz2 (by omega))
 have G2 := zi (fun w' (h : Ext w w') => field_GetO A n c fs x_lm w' (hf.ext h) (by omega) (by decide) hbz2 (by omega))
 have V1 := zi (fun v h => Nat.le_trans (@getO_size fs x_et v h n hf.lenF) hT)
 have V2 := zi (fun v h => Nat.le_trans (@getO_size fs x_lm v h n hf.lenF) hT)
 have HP := zi (fun w' (h : Ext w w') v (hv : v.size ≤ 1048576) => http_Parse v w' (by omega) (hg.ext h))
 have HR := zi (stS_eq fs)
 clear hbz hbz2 hf hT hg
 generalize stArr (stS fs) = R at *
 generalize getO fs x_et = oe at *
 generalize getO fs x_lm = ol at *
 have HB1 := zi ((Blk.new w 187 #[.bool false, .bool false, .bool false, .bool false, .string ⟨#[]⟩, .int .i64 0]).alloc (.cells #[.bool true, .bool false, .bool false, .bool false, .string ⟨#[]⟩, .int .i64 0] 187))
 have HB2 := zi (Blk.new (w.alloc (.cells #[.bool false, .bool false, .bool false, .bool false, .string ⟨#[]⟩, .int .i64 0] 187)) 187 #[.bool true, .bool false, .bool false, .bool false, .string ⟨#[]⟩, .int .i64 0])
 have hE := (((Ext.refl w).alloc (.cells #[.bool false, .bool false, .bool false, .bool false, .string ⟨#[]⟩, .int .i64 0] 187)).alloc (.cells #[.bool true, .bool false, .bool false, .bool false, .string ⟨#[]⟩, .int .i64 0] 187))
 have hsz1 : (w.alloc (.cells #[.bool false, .bool false, .bool false, .bool false, .string ⟨#[]⟩, .int .i64 0] 187)).heap.size = w.heap.size + 1 := by simp
 rw [hsz1] at HB2
 go_enter Tryz.func107, Tryz.ntmps107
 go_wp2_with fail
 (try rw [hsz1])
 refine (G1.out _ hE).mono ?_; rintro e w1 ⟨rfl, hb1⟩
 replace HB1 := zi (HB1.out.ext hb1); replace HB2 := zi (HB2.out.ext hb1)
 have hE := hE.trans hb1
 clear hb1 hsz1
 cases oe with
 | none =>
  rw [show getV none = .tuple #[.string ⟨#[]⟩, .bool false] from rfl]
  have HR1 := zi (show R = #[.bool true, .bool false, .bool (ol.bind dateP).isSome, .bool false, .string ⟨#[]⟩, .int .i64 ((ol.bind dateP).getD 0)] from by rw [HR.out]; rfl)
  go_wp2_with fail
  refine (G2.out _ hE).mono ?_; rintro e w5 ⟨rfl, hb5⟩
  replace HB1 := zi (HB1.out.ext hb5); replace HB2 := zi (HB2.out.ext hb5); replace hE := hE.trans hb5
  cases ol with
  | none =>
   rw [show getV none = .tuple #[.string ⟨#[]⟩, .bool false] from rfl]
   have d0 : w5.cell? ⟨w.heap.size + 1, 0, none⟩ = some (.bool true) := HB2.out.cell 0
   have d1 : w5.cell? ⟨w.heap.size + 1, 1, none⟩ = some (.bool false) := HB2.out.cell 1
   have d2 : w5.cell? ⟨w.heap.size + 1, 2, none⟩ = some (.bool false) := HB2.out.cell 2
   have d3 : w5.cell? ⟨w.heap.size + 1, 3, none⟩ = some (.bool false) := HB2.out.cell 3
   have d4 : w5.cell? ⟨w.heap.size + 1, 4, none⟩ = some (.string ⟨#[]⟩) := HB2.out.cell 4
   have d5 : w5.cell? ⟨w.heap.size + 1, 5, none⟩ = some (.int .i64 0) := HB2.out.cell 5
   go_wp2_with (first | (refine wpList_storeB rfl 187 (.tmp 2) (.tmp 45) rfl rfl w.heap.size _ rfl rfl 187 _ HB1.out infoSt rfl (by simp [Value.oneCell']) ?_; intro w9 hB9 hx9))
   have y0 : w9.cell? ⟨w.heap.size, 0, none⟩ = some (.bool true) := hB9.cell 0
   have y1 : w9.cell? ⟨w.heap.size, 1, none⟩ = some (.bool false) := hB9.cell 1
   have y2 : w9.cell? ⟨w.heap.size, 2, none⟩ = some (.bool false) := hB9.cell 2
   have y3 : w9.cell? ⟨w.heap.size, 3, none⟩ = some (.bool false) := hB9.cell 3
   have y4 : w9.cell? ⟨w.heap.size, 4, none⟩ = some (.string ⟨#[]⟩) := hB9.cell 4
   have y5 : w9.cell? ⟨w.heap.size, 5, none⟩ = some (.int .i64 0) := hB9.cell 5
   exact bodyPost_ret (v := .agg #[.bool true, .bool false, .bool false, .bool false, .string ⟨#[]⟩, .int .i64 0]) (by simp [results, Tryz.results107, go_sem, y0, y1, y2, y3, y4, y5]) rfl ⟨by rw [HR1.out]; rfl, hE.growB hx9 (Nat.le_refl _)⟩
  | some u =>
   rw [show getV (some u) = .tuple #[.string u, .bool true] from rfl]
   have hu := V2.out u rfl
   go_wp2_with fail
   refine (HP.out _ hE u hu).mono ?_; rintro e w6 ⟨rfl, hb6⟩
   replace HB1 := zi (HB1.out.ext hb6); replace HB2 := zi (HB2.out.ext hb6); replace hE := hE.trans hb6
   have e2 : w6.cell? ⟨w.heap.size + 1, 2, none⟩ = some (.bool false) := HB2.out.cell 2; have e5 : w6.cell? ⟨w.heap.size + 1, 5, none⟩ = some (.int .i64 0) := HB2.out.cell 5
   have g2 : w6.frozen? ⟨w.heap.size + 1, 2, none⟩ = false := HB2.out.frozen 2; have g5 : w6.frozen? ⟨w.heap.size + 1, 5, none⟩ = false := HB2.out.frozen 5
   have HBs := zi (fun (b : Bool) (m : Int) => (show Blk ((w6.setCell ⟨w.heap.size + 1, 2, none⟩ (.bool b)).setCell ⟨w.heap.size + 1, 5, none⟩ (.int .i64 m)) (w.heap.size + 1) 187 #[.bool true, .bool false, .bool b, .bool false, .string ⟨#[]⟩, .int .i64 m] from (HB2.out.set_ 2 _).set_ 5 _))
   have HB1s := zi (fun (b : Bool) (m : Int) => (show Blk ((w6.setCell ⟨w.heap.size + 1, 2, none⟩ (.bool b)).setCell ⟨w.heap.size + 1, 5, none⟩ (.int .i64 m)) w.heap.size 187 #[.bool false, .bool false, .bool false, .bool false, .string ⟨#[]⟩, .int .i64 0] from (HB1.out.far (p := ⟨w.heap.size + 1, 2, none⟩) (by simp) _).far (p := ⟨w.heap.size + 1, 5, none⟩) (by simp) _))
   have HEs := zi (fun (b : Bool) (m : Int) => ((hE.setCell (p := ⟨w.heap.size + 1, 2, none⟩) (by simp) (.bool b)).setCell (p := ⟨w.heap.size + 1, 5, none⟩) (by simp) (.int .i64 m)))
   cases hdp : dateP u with
   | none =>
    rw [show dpV none = .tuple #[.int .i64 0, .iface 63 (.int .i64 2)] from rfl]
    have HB2 := zi (HBs.out false 0); have HB1 := zi (HB1s.out false 0); have hE := HEs.out false 0
    go_upto_region 10 with fail
    clear e2 e5 g2 g5
    generalize ((w6.setCell ⟨w.heap.size + 1, 2, none⟩ (.bool false)).setCell ⟨w.heap.size + 1, 5, none⟩ (.int .i64 0)) = w7 at *
    have d0 : w7.cell? ⟨w.heap.size + 1, 0, none⟩ = some (.bool true) := HB2.out.cell 0
    have d1 : w7.cell? ⟨w.heap.size + 1, 1, none⟩ = some (.bool false) := HB2.out.cell 1
    have d2 : w7.cell? ⟨w.heap.size + 1, 2, none⟩ = some (.bool false) := HB2.out.cell 2
    have d3 : w7.cell? ⟨w.heap.size + 1, 3, none⟩ = some (.bool false) := HB2.out.cell 3
    have d4 : w7.cell? ⟨w.heap.size + 1, 4, none⟩ = some (.string ⟨#[]⟩) := HB2.out.cell 4
    have d5 : w7.cell? ⟨w.heap.size + 1, 5, none⟩ = some (.int .i64 0) := HB2.out.cell 5
    go_wp2_with (first | (refine wpList_storeB rfl 187 (.tmp 2) (.tmp 45) rfl rfl w.heap.size _ rfl rfl 187 _ HB1.out infoSt rfl (by simp [Value.oneCell']) ?_; intro w9 hB9 hx9))
    have y0 : w9.cell? ⟨w.heap.size, 0, none⟩ = some (.bool true) := hB9.cell 0
    have y1 : w9.cell? ⟨w.heap.size, 1, none⟩ = some (.bool false) := hB9.cell 1
    have y2 : w9.cell? ⟨w.heap.size, 2, none⟩ = some (.bool false) := hB9.cell 2
    have y3 : w9.cell? ⟨w.heap.size, 3, none⟩ = some (.bool false) := hB9.cell 3
    have y4 : w9.cell? ⟨w.heap.size, 4, none⟩ = some (.string ⟨#[]⟩) := hB9.cell 4
    have y5 : w9.cell? ⟨w.heap.size, 5, none⟩ = some (.int .i64 0) := hB9.cell 5
    exact bodyPost_ret (v := .agg #[.bool true, .bool false, .bool false, .bool false, .string ⟨#[]⟩, .int .i64 0]) (by simp [results, Tryz.results107, go_sem, y0, y1, y2, y3, y4, y5]) rfl ⟨by rw [HR1.out, show (some u).bind dateP = dateP u from rfl, hdp]; rfl, hE.growB hx9 (Nat.le_refl _)⟩
   | some m =>
    rw [show dpV (some m) = .tuple #[.int .i64 m, .nilIface] from rfl]
    have HB2 := zi (HBs.out true m); have HB1 := zi (HB1s.out true m); have hE := HEs.out true m
    go_upto_region 10 with fail
    clear e2 e5 g2 g5
    generalize ((w6.setCell ⟨w.heap.size + 1, 2, none⟩ (.bool true)).setCell ⟨w.heap.size + 1, 5, none⟩ (.int .i64 m)) = w7 at *
    have d0 : w7.cell? ⟨w.heap.size + 1, 0, none⟩ = some (.bool true) := HB2.out.cell 0
    have d1 : w7.cell? ⟨w.heap.size + 1, 1, none⟩ = some (.bool false) := HB2.out.cell 1
    have d2 : w7.cell? ⟨w.heap.size + 1, 2, none⟩ = some (.bool true) := HB2.out.cell 2
    have d3 : w7.cell? ⟨w.heap.size + 1, 3, none⟩ = some (.bool false) := HB2.out.cell 3
    have d4 : w7.cell? ⟨w.heap.size + 1, 4, none⟩ = some (.string ⟨#[]⟩) := HB2.out.cell 4
    have d5 : w7.cell? ⟨w.heap.size + 1, 5, none⟩ = some (.int .i64 m) := HB2.out.cell 5
    go_wp2_with (first | (refine wpList_storeB rfl 187 (.tmp 2) (.tmp 45) rfl rfl w.heap.size _ rfl rfl 187 _ HB1.out infoSt rfl (by simp [Value.oneCell']) ?_; intro w9 hB9 hx9))
    have y0 : w9.cell? ⟨w.heap.size, 0, none⟩ = some (.bool true) := hB9.cell 0
    have y1 : w9.cell? ⟨w.heap.size, 1, none⟩ = some (.bool false) := hB9.cell 1
    have y2 : w9.cell? ⟨w.heap.size, 2, none⟩ = some (.bool true) := hB9.cell 2
    have y3 : w9.cell? ⟨w.heap.size, 3, none⟩ = some (.bool false) := hB9.cell 3
    have y4 : w9.cell? ⟨w.heap.size, 4, none⟩ = some (.string ⟨#[]⟩) := hB9.cell 4
    have y5 : w9.cell? ⟨w.heap.size, 5, none⟩ = some (.int .i64 m) := hB9.cell 5
    exact bodyPost_ret (v := .agg #[.bool true, .bool false, .bool true, .bool false, .string ⟨#[]⟩, .int .i64 m]) (by simp [results, Tryz.results107, go_sem, y0, y1, y2, y3, y4, y5]) rfl ⟨by rw [HR1.out, show (some u).bind dateP = dateP u from rfl, hdp]; rfl, hE.growB hx9 (Nat.le_refl _)⟩
 | some v =>
  rw [show getV (some v) = .tuple #[.string v, .bool true] from rfl]
  go_wp2_with fail
  refine (val_ReadTag v _ (V1.out v rfl)).mono ?_; rintro e w2 ⟨rfl, hb2⟩
  replace HB1 := zi (HB1.out.ext hb2); replace HB2 := zi (HB2.out.ext hb2); replace hE := hE.trans hb2
  cases htg : tagS v with
  | none =>
   rw [show tagV none = .agg #[.bool false, .string ⟨#[]⟩] from rfl, show errV (tagE none) = .iface 63 (.int .i64 2) from rfl]
   have HB2b := HB2
   have HT := zi (Blk.new w2 185 #[.bool false, .string ⟨#[]⟩])
   replace HB1 := zi (HB1.out.alloc (.cells #[.bool false, .string ⟨#[]⟩] 185)); replace HB2 := zi (HB2.out.alloc (.cells #[.bool false, .string ⟨#[]⟩] 185)); replace hE := hE.alloc (.cells #[.bool false, .string ⟨#[]⟩] 185)
   have hne : w.heap.size + 1 ≠ w2.heap.size := by have := HB2b.out.lt; omega
   go_upto_region 5 with fail
   generalize w2.alloc (.cells #[.bool false, .string ⟨#[]⟩] 185) = w3 at *
   generalize w2.heap.size = b6 at *
   have t0 : w3.cell? ⟨b6, 0, none⟩ = some (.bool false) := HT.out.cell 0; have t1 : w3.cell? ⟨b6, 1, none⟩ = some (.string ⟨#[]⟩) := HT.out.cell 1
   refine wp_region_held_drew (S := (fun w' => w'.cell? ⟨b6, 0, none⟩ = some (.bool false) ∧ w'.cell? ⟨b6, 1, none⟩ = some (.string ⟨#[]⟩))) (by kernel_rfl) ?_ (fun hHeld => ?_)
   ·(try dsimp only); exact ⟨t0, t1⟩
   refine zH (v := ?_) 0 (some 24) rfl ?_ ?_; rotate_left
   ·(intro w hSw; (try dsimp only at hSw); go_simp; (try with_reducible rfl))
   try simp only [zP]
   refine zH (v := ?_) 1 (some 25) rfl ?_ ?_; rotate_left
   ·(intro w hSw; (try dsimp only at hSw); go_simp; (try with_reducible rfl))
   try simp only [zP]
   refine zH (v := ?_) 2 (some 26) rfl ?_ ?_; rotate_left
   ·(intro w hSw; (try dsimp only at hSw); go_simp; (try with_reducible rfl))
   try simp only [zP]
   refine zH (v := ?_) 3 (some 27) rfl ?_ ?_; rotate_left
   ·(intro w hSw; (try dsimp only at hSw); go_simp; (try with_reducible rfl))
   try simp only [zP]
   refine wpAnyH_ready (rs := [4]) (by kernel_rfl) (by simp) ?_
   refine AllReadyH.cons (o := ⟨none, _, _, _, _, _⟩) rfl (fun K hK => ?_) AllReadyH.nil
   have e1 : w3.cell? ⟨w.heap.size + 1, 1, none⟩ = some (.bool false) := HB2.out.cell 1; have e3 : w3.cell? ⟨w.heap.size + 1, 3, none⟩ = some (.bool false) := HB2.out.cell 3; have e4 : w3.cell? ⟨w.heap.size + 1, 4, none⟩ = some (.string ⟨#[]⟩) := HB2.out.cell 4; have g1 : w3.frozen? ⟨w.heap.size + 1, 1, none⟩ = false := HB2.out.frozen 1; have g3 : w3.frozen? ⟨w.heap.size + 1, 3, none⟩ = false := HB2.out.frozen 3; have g4 : w3.frozen? ⟨w.heap.size + 1, 4, none⟩ = false := HB2.out.frozen 4
   go_simp
   try go_wp2_with fail
   refine hK.out _ _ ?_ (fun hHeld => ?_)
   ·(try dsimp only); exact ⟨far_cell t0 hne, far_cell t1 hne⟩
   clear hK K
   try simp only [zP]
   refine zH (v := ?_) 5 (some 28) rfl ?_ ?_; rotate_left
   ·(intro w hSw; (try dsimp only at hSw); go_simp; (try with_reducible rfl))
   try simp only [zP]
   refine wpAnyH_ready (rs := [6]) (by kernel_rfl) (by simp) ?_
   refine AllReadyH.cons (o := ⟨none, _, _, _, _, _⟩) rfl (fun K hK => ?_) AllReadyH.nil
   go_simp
   try go_wp2_with fail
   refine hK.out _ _ ?_ (fun hHeld => ?_)
   ·(try dsimp only); exact ⟨far_cell (far_cell (far_cell t0 hne) hne) hne, far_cell (far_cell (far_cell t1 hne) hne) hne⟩
   clear hK K
   try simp only [zP]
   refine wpAnyH_done (by kernel_rfl) ?_ _
   have HB2n := zi (show Blk (((w3.setCell ⟨w.heap.size + 1, 1, none⟩ (.bool false)).setCell ⟨w.heap.size + 1, 3, none⟩ (.bool false)).setCell ⟨w.heap.size + 1, 4, none⟩ (.string ⟨#[]⟩)) (w.heap.size + 1) 187 #[.bool true, .bool false, .bool false, .bool false, .string ⟨#[]⟩, .int .i64 0] from ((HB2.out.set_ 1 _).set_ 3 _).set_ 4 _)
   have HB1n := zi (show Blk (((w3.setCell ⟨w.heap.size + 1, 1, none⟩ (.bool false)).setCell ⟨w.heap.size + 1, 3, none⟩ (.bool false)).setCell ⟨w.heap.size + 1, 4, none⟩ (.string ⟨#[]⟩)) w.heap.size 187 #[.bool false, .bool false, .bool false, .bool false, .string ⟨#[]⟩, .int .i64 0] from ((HB1.out.far (p := ⟨w.heap.size + 1, 1, none⟩) (by simp) _).far (p := ⟨w.heap.size + 1, 3, none⟩) (by simp) _).far (p := ⟨w.heap.size + 1, 4, none⟩) (by simp) _)
   have hEn := (((hE.setCell (p := ⟨w.heap.size + 1, 1, none⟩) (by simp) (.bool false)).setCell (p := ⟨w.heap.size + 1, 3, none⟩) (by simp) (.bool false)).setCell (p := ⟨w.heap.size + 1, 4, none⟩) (by simp) (.string ⟨#[]⟩))
   clear e1 e3 e4 g1 g3 g4 t0 t1 HB1 HB2 hE
   have HB1 := HB1n; have HB2 := HB2n; have hE := hEn
   change Ext w (((w3.setCell ⟨w.heap.size + 1, 1, none⟩ (.bool false)).setCell ⟨w.heap.size + 1, 3, none⟩ (.bool false)).setCell ⟨w.heap.size + 1, 4, none⟩ (.string ⟨#[]⟩)) at hE
   generalize (((w3.setCell ⟨w.heap.size + 1, 1, none⟩ (.bool false)).setCell ⟨w.heap.size + 1, 3, none⟩ (.bool false)).setCell ⟨w.heap.size + 1, 4, none⟩ (.string ⟨#[]⟩)) = w4' at *
   replace hE := hE.drew
   have HB1 := zi (HB1.out.drew)
   have HB2 := zi (HB2.out.drew)
   generalize w4'.drew = w4 at *
   have HR1 := zi (show R = #[.bool true, .bool false, .bool (ol.bind dateP).isSome, .bool false, .string ⟨#[]⟩, .int .i64 ((ol.bind dateP).getD 0)] from by rw [HR.out]; simp only [Option.bind_some, htg]; rfl)
   go_wp2_with fail
   refine (G2.out _ hE).mono ?_; rintro e w5 ⟨rfl, hb5⟩
   replace HB1 := zi (HB1.out.ext hb5); replace HB2 := zi (HB2.out.ext hb5); replace hE := hE.trans hb5
   cases ol with
   | none =>
    rw [show getV none = .tuple #[.string ⟨#[]⟩, .bool false] from rfl]
    have d0 : w5.cell? ⟨w.heap.size + 1, 0, none⟩ = some (.bool true) := HB2.out.cell 0
    have d1 : w5.cell? ⟨w.heap.size + 1, 1, none⟩ = some (.bool false) := HB2.out.cell 1
    have d2 : w5.cell? ⟨w.heap.size + 1, 2, none⟩ = some (.bool false) := HB2.out.cell 2
    have d3 : w5.cell? ⟨w.heap.size + 1, 3, none⟩ = some (.bool false) := HB2.out.cell 3
    have d4 : w5.cell? ⟨w.heap.size + 1, 4, none⟩ = some (.string ⟨#[]⟩) := HB2.out.cell 4
    have d5 : w5.cell? ⟨w.heap.size + 1, 5, none⟩ = some (.int .i64 0) := HB2.out.cell 5
    go_wp2_with (first | (refine wpList_storeB rfl 187 (.tmp 2) (.tmp 45) rfl rfl w.heap.size _ rfl rfl 187 _ HB1.out infoSt rfl (by simp [Value.oneCell']) ?_; intro w9 hB9 hx9))
    have y0 : w9.cell? ⟨w.heap.size, 0, none⟩ = some (.bool true) := hB9.cell 0
    have y1 : w9.cell? ⟨w.heap.size, 1, none⟩ = some (.bool false) := hB9.cell 1
    have y2 : w9.cell? ⟨w.heap.size, 2, none⟩ = some (.bool false) := hB9.cell 2
    have y3 : w9.cell? ⟨w.heap.size, 3, none⟩ = some (.bool false) := hB9.cell 3
    have y4 : w9.cell? ⟨w.heap.size, 4, none⟩ = some (.string ⟨#[]⟩) := hB9.cell 4
    have y5 : w9.cell? ⟨w.heap.size, 5, none⟩ = some (.int .i64 0) := hB9.cell 5
    exact bodyPost_ret (v := .agg #[.bool true, .bool false, .bool false, .bool false, .string ⟨#[]⟩, .int .i64 0]) (by simp [results, Tryz.results107, go_sem, y0, y1, y2, y3, y4, y5]) rfl ⟨by rw [HR1.out]; rfl, hE.growB hx9 (Nat.le_refl _)⟩
   | some u =>
    rw [show getV (some u) = .tuple #[.string u, .bool true] from rfl]
    have hu := V2.out u rfl
    go_wp2_with fail
    refine (HP.out _ hE u hu).mono ?_; rintro e w6 ⟨rfl, hb6⟩
    replace HB1 := zi (HB1.out.ext hb6); replace HB2 := zi (HB2.out.ext hb6); replace hE := hE.trans hb6
    have e2 : w6.cell? ⟨w.heap.size + 1, 2, none⟩ = some (.bool false) := HB2.out.cell 2; have e5 : w6.cell? ⟨w.heap.size + 1, 5, none⟩ = some (.int .i64 0) := HB2.out.cell 5
    have g2 : w6.frozen? ⟨w.heap.size + 1, 2, none⟩ = false := HB2.out.frozen 2; have g5 : w6.frozen? ⟨w.heap.size + 1, 5, none⟩ = false := HB2.out.frozen 5
    have HBs := zi (fun (b : Bool) (m : Int) => (show Blk ((w6.setCell ⟨w.heap.size + 1, 2, none⟩ (.bool b)).setCell ⟨w.heap.size + 1, 5, none⟩ (.int .i64 m)) (w.heap.size + 1) 187 #[.bool true, .bool false, .bool b, .bool false, .string ⟨#[]⟩, .int .i64 m] from (HB2.out.set_ 2 _).set_ 5 _))
    have HB1s := zi (fun (b : Bool) (m : Int) => (show Blk ((w6.setCell ⟨w.heap.size + 1, 2, none⟩ (.bool b)).setCell ⟨w.heap.size + 1, 5, none⟩ (.int .i64 m)) w.heap.size 187 #[.bool false, .bool false, .bool false, .bool false, .string ⟨#[]⟩, .int .i64 0] from (HB1.out.far (p := ⟨w.heap.size + 1, 2, none⟩) (by simp) _).far (p := ⟨w.heap.size + 1, 5, none⟩) (by simp) _))
    have HEs := zi (fun (b : Bool) (m : Int) => ((hE.setCell (p := ⟨w.heap.size + 1, 2, none⟩) (by simp) (.bool b)).setCell (p := ⟨w.heap.size + 1, 5, none⟩) (by simp) (.int .i64 m)))
    cases hdp : dateP u with
    | none =>
     rw [show dpV none = .tuple #[.int .i64 0, .iface 63 (.int .i64 2)] from rfl]
     have HB2 := zi (HBs.out false 0); have HB1 := zi (HB1s.out false 0); have hE := HEs.out false 0
     go_upto_region 10 with fail
     clear e2 e5 g2 g5
     generalize ((w6.setCell ⟨w.heap.size + 1, 2, none⟩ (.bool false)).setCell ⟨w.heap.size + 1, 5, none⟩ (.int .i64 0)) = w7 at *
     have d0 : w7.cell? ⟨w.heap.size + 1, 0, none⟩ = some (.bool true) := HB2.out.cell 0
     have d1 : w7.cell? ⟨w.heap.size + 1, 1, none⟩ = some (.bool false) := HB2.out.cell 1
     have d2 : w7.cell? ⟨w.heap.size + 1, 2, none⟩ = some (.bool false) := HB2.out.cell 2
     have d3 : w7.cell? ⟨w.heap.size + 1, 3, none⟩ = some (.bool false) := HB2.out.cell 3
     have d4 : w7.cell? ⟨w.heap.size + 1, 4, none⟩ = some (.string ⟨#[]⟩) := HB2.out.cell 4
     have d5 : w7.cell? ⟨w.heap.size + 1, 5, none⟩ = some (.int .i64 0) := HB2.out.cell 5
     go_wp2_with (first | (refine wpList_storeB rfl 187 (.tmp 2) (.tmp 45) rfl rfl w.heap.size _ rfl rfl 187 _ HB1.out infoSt rfl (by simp [Value.oneCell']) ?_; intro w9 hB9 hx9))
     have y0 : w9.cell? ⟨w.heap.size, 0, none⟩ = some (.bool true) := hB9.cell 0
     have y1 : w9.cell? ⟨w.heap.size, 1, none⟩ = some (.bool false) := hB9.cell 1
     have y2 : w9.cell? ⟨w.heap.size, 2, none⟩ = some (.bool false) := hB9.cell 2
     have y3 : w9.cell? ⟨w.heap.size, 3, none⟩ = some (.bool false) := hB9.cell 3
     have y4 : w9.cell? ⟨w.heap.size, 4, none⟩ = some (.string ⟨#[]⟩) := hB9.cell 4
     have y5 : w9.cell? ⟨w.heap.size, 5, none⟩ = some (.int .i64 0) := hB9.cell 5
     exact bodyPost_ret (v := .agg #[.bool true, .bool false, .bool false, .bool false, .string ⟨#[]⟩, .int .i64 0]) (by simp [results, Tryz.results107, go_sem, y0, y1, y2, y3, y4, y5]) rfl ⟨by rw [HR1.out, show (some u).bind dateP = dateP u from rfl, hdp]; rfl, hE.growB hx9 (Nat.le_refl _)⟩
    | some m =>
     rw [show dpV (some m) = .tuple #[.int .i64 m, .nilIface] from rfl]
     have HB2 := zi (HBs.out true m); have HB1 := zi (HB1s.out true m); have hE := HEs.out true m
     go_upto_region 10 with fail
     clear e2 e5 g2 g5
     generalize ((w6.setCell ⟨w.heap.size + 1, 2, none⟩ (.bool true)).setCell ⟨w.heap.size + 1, 5, none⟩ (.int .i64 m)) = w7 at *
     have d0 : w7.cell? ⟨w.heap.size + 1, 0, none⟩ = some (.bool true) := HB2.out.cell 0
     have d1 : w7.cell? ⟨w.heap.size + 1, 1, none⟩ = some (.bool false) := HB2.out.cell 1
     have d2 : w7.cell? ⟨w.heap.size + 1, 2, none⟩ = some (.bool true) := HB2.out.cell 2
     have d3 : w7.cell? ⟨w.heap.size + 1, 3, none⟩ = some (.bool false) := HB2.out.cell 3
     have d4 : w7.cell? ⟨w.heap.size + 1, 4, none⟩ = some (.string ⟨#[]⟩) := HB2.out.cell 4
     have d5 : w7.cell? ⟨w.heap.size + 1, 5, none⟩ = some (.int .i64 m) := HB2.out.cell 5
     go_wp2_with (first | (refine wpList_storeB rfl 187 (.tmp 2) (.tmp 45) rfl rfl w.heap.size _ rfl rfl 187 _ HB1.out infoSt rfl (by simp [Value.oneCell']) ?_; intro w9 hB9 hx9))
     have y0 : w9.cell? ⟨w.heap.size, 0, none⟩ = some (.bool true) := hB9.cell 0
     have y1 : w9.cell? ⟨w.heap.size, 1, none⟩ = some (.bool false) := hB9.cell 1
     have y2 : w9.cell? ⟨w.heap.size, 2, none⟩ = some (.bool true) := hB9.cell 2
     have y3 : w9.cell? ⟨w.heap.size, 3, none⟩ = some (.bool false) := hB9.cell 3
     have y4 : w9.cell? ⟨w.heap.size, 4, none⟩ = some (.string ⟨#[]⟩) := hB9.cell 4
     have y5 : w9.cell? ⟨w.heap.size, 5, none⟩ = some (.int .i64 m) := hB9.cell 5
     exact bodyPost_ret (v := .agg #[.bool true, .bool false, .bool true, .bool false, .string ⟨#[]⟩, .int .i64 m]) (by simp [results, Tryz.results107, go_sem, y0, y1, y2, y3, y4, y5]) rfl ⟨by rw [HR1.out, show (some u).bind dateP = dateP u from rfl, hdp]; rfl, hE.growB hx9 (Nat.le_refl _)⟩
  | some t =>
   obtain ⟨tw, tt⟩ := t
   rw [show tagV (some (tw, tt)) = .agg #[.bool tw, .string tt] from rfl, show errV (tagE (some (tw, tt))) = .nilIface from rfl]
   have HB2b := HB2
   have HT := zi (Blk.new w2 185 #[.bool tw, .string tt])
   replace HB1 := zi (HB1.out.alloc (.cells #[.bool tw, .string tt] 185)); replace HB2 := zi (HB2.out.alloc (.cells #[.bool tw, .string tt] 185)); replace hE := hE.alloc (.cells #[.bool tw, .string tt] 185)
   have hne : w.heap.size + 1 ≠ w2.heap.size := by have := HB2b.out.lt; omega
   go_upto_region 5 with fail
   generalize w2.alloc (.cells #[.bool tw, .string tt] 185) = w3 at *
   generalize w2.heap.size = b6 at *
   have t0 : w3.cell? ⟨b6, 0, none⟩ = some (.bool tw) := HT.out.cell 0; have t1 : w3.cell? ⟨b6, 1, none⟩ = some (.string tt) := HT.out.cell 1
   refine wp_region_held_drew (S := (fun w' => w'.cell? ⟨b6, 0, none⟩ = some (.bool tw) ∧ w'.cell? ⟨b6, 1, none⟩ = some (.string tt))) (by kernel_rfl) ?_ (fun hHeld => ?_)
   ·(try dsimp only); exact ⟨t0, t1⟩
   refine zH (v := ?_) 0 (some 24) rfl ?_ ?_; rotate_left
   ·(intro w hSw; (try dsimp only at hSw); go_simp; (try with_reducible rfl))
   try simp only [zP]
   refine zH (v := ?_) 1 (some 25) rfl ?_ ?_; rotate_left
   ·(intro w hSw; (try dsimp only at hSw); go_simp; (try with_reducible rfl))
   try simp only [zP]
   refine zH (v := ?_) 2 (some 26) rfl ?_ ?_; rotate_left
   ·(intro w hSw; (try dsimp only at hSw); go_simp; (try with_reducible rfl))
   try simp only [zP]
   refine zH (v := ?_) 3 (some 27) rfl ?_ ?_; rotate_left
   ·(intro w hSw; (try dsimp only at hSw); go_simp; (try with_reducible rfl))
   try simp only [zP]
   refine wpAnyH_ready (rs := [4]) (by kernel_rfl) (by simp) ?_
   refine AllReadyH.cons (o := ⟨none, _, _, _, _, _⟩) rfl (fun K hK => ?_) AllReadyH.nil
   have e1 : w3.cell? ⟨w.heap.size + 1, 1, none⟩ = some (.bool false) := HB2.out.cell 1; have e3 : w3.cell? ⟨w.heap.size + 1, 3, none⟩ = some (.bool false) := HB2.out.cell 3; have e4 : w3.cell? ⟨w.heap.size + 1, 4, none⟩ = some (.string ⟨#[]⟩) := HB2.out.cell 4; have g1 : w3.frozen? ⟨w.heap.size + 1, 1, none⟩ = false := HB2.out.frozen 1; have g3 : w3.frozen? ⟨w.heap.size + 1, 3, none⟩ = false := HB2.out.frozen 3; have g4 : w3.frozen? ⟨w.heap.size + 1, 4, none⟩ = false := HB2.out.frozen 4
   go_simp
   try go_wp2_with fail
   refine hK.out _ _ ?_ (fun hHeld => ?_)
   ·(try dsimp only); exact ⟨far_cell t0 hne, far_cell t1 hne⟩
   clear hK K
   try simp only [zP]
   refine zH (v := ?_) 5 (some 28) rfl ?_ ?_; rotate_left
   ·(intro w hSw; (try dsimp only at hSw); go_simp; (try with_reducible rfl))
   try simp only [zP]
   refine wpAnyH_ready (rs := [6]) (by kernel_rfl) (by simp) ?_
   refine AllReadyH.cons (o := ⟨none, _, _, _, _, _⟩) rfl (fun K hK => ?_) AllReadyH.nil
   go_simp
   try go_wp2_with fail
   refine hK.out _ _ ?_ (fun hHeld => ?_)
   ·(try dsimp only); exact ⟨far_cell (far_cell (far_cell t0 hne) hne) hne, far_cell (far_cell (far_cell t1 hne) hne) hne⟩
   clear hK K
   try simp only [zP]
   refine wpAnyH_done (by kernel_rfl) ?_ _
   have HB2n := zi (show Blk (((w3.setCell ⟨w.heap.size + 1, 1, none⟩ (.bool true)).setCell ⟨w.heap.size + 1, 3, none⟩ (.bool tw)).setCell ⟨w.heap.size + 1, 4, none⟩ (.string tt)) (w.heap.size + 1) 187 #[.bool true, .bool true, .bool false, .bool tw, .string tt, .int .i64 0] from ((HB2.out.set_ 1 _).set_ 3 _).set_ 4 _)
   have HB1n := zi (show Blk (((w3.setCell ⟨w.heap.size + 1, 1, none⟩ (.bool true)).setCell ⟨w.heap.size + 1, 3, none⟩ (.bool tw)).setCell ⟨w.heap.size + 1, 4, none⟩ (.string tt)) w.heap.size 187 #[.bool false, .bool false, .bool false, .bool false, .string ⟨#[]⟩, .int .i64 0] from ((HB1.out.far (p := ⟨w.heap.size + 1, 1, none⟩) (by simp) _).far (p := ⟨w.heap.size + 1, 3, none⟩) (by simp) _).far (p := ⟨w.heap.size + 1, 4, none⟩) (by simp) _)
   have hEn := (((hE.setCell (p := ⟨w.heap.size + 1, 1, none⟩) (by simp) (.bool true)).setCell (p := ⟨w.heap.size + 1, 3, none⟩) (by simp) (.bool tw)).setCell (p := ⟨w.heap.size + 1, 4, none⟩) (by simp) (.string tt))
   clear e1 e3 e4 g1 g3 g4 t0 t1 HB1 HB2 hE
   have HB1 := HB1n; have HB2 := HB2n; have hE := hEn
   change Ext w (((w3.setCell ⟨w.heap.size + 1, 1, none⟩ (.bool true)).setCell ⟨w.heap.size + 1, 3, none⟩ (.bool tw)).setCell ⟨w.heap.size + 1, 4, none⟩ (.string tt)) at hE
   generalize (((w3.setCell ⟨w.heap.size + 1, 1, none⟩ (.bool true)).setCell ⟨w.heap.size + 1, 3, none⟩ (.bool tw)).setCell ⟨w.heap.size + 1, 4, none⟩ (.string tt)) = w4' at *
   replace hE := hE.drew
   have HB1 := zi (HB1.out.drew)
   have HB2 := zi (HB2.out.drew)
   generalize w4'.drew = w4 at *
   have HR1 := zi (show R = #[.bool true, .bool true, .bool (ol.bind dateP).isSome, .bool tw, .string tt, .int .i64 ((ol.bind dateP).getD 0)] from by rw [HR.out]; simp only [Option.bind_some, htg]; rfl)
   go_wp2_with fail
   refine (G2.out _ hE).mono ?_; rintro e w5 ⟨rfl, hb5⟩
   replace HB1 := zi (HB1.out.ext hb5); replace HB2 := zi (HB2.out.ext hb5); replace hE := hE.trans hb5
   cases ol with
   | none =>
    rw [show getV none = .tuple #[.string ⟨#[]⟩, .bool false] from rfl]
    have d0 : w5.cell? ⟨w.heap.size + 1, 0, none⟩ = some (.bool true) := HB2.out.cell 0
    have d1 : w5.cell? ⟨w.heap.size + 1, 1, none⟩ = some (.bool true) := HB2.out.cell 1
    have d2 : w5.cell? ⟨w.heap.size + 1, 2, none⟩ = some (.bool false) := HB2.out.cell 2
    have d3 : w5.cell? ⟨w.heap.size + 1, 3, none⟩ = some (.bool tw) := HB2.out.cell 3
    have d4 : w5.cell? ⟨w.heap.size + 1, 4, none⟩ = some (.string tt) := HB2.out.cell 4
    have d5 : w5.cell? ⟨w.heap.size + 1, 5, none⟩ = some (.int .i64 0) := HB2.out.cell 5
    go_wp2_with (first | (refine wpList_storeB rfl 187 (.tmp 2) (.tmp 45) rfl rfl w.heap.size _ rfl rfl 187 _ HB1.out infoSt rfl (by simp [Value.oneCell']) ?_; intro w9 hB9 hx9))
    have y0 : w9.cell? ⟨w.heap.size, 0, none⟩ = some (.bool true) := hB9.cell 0
    have y1 : w9.cell? ⟨w.heap.size, 1, none⟩ = some (.bool true) := hB9.cell 1
    have y2 : w9.cell? ⟨w.heap.size, 2, none⟩ = some (.bool false) := hB9.cell 2
    have y3 : w9.cell? ⟨w.heap.size, 3, none⟩ = some (.bool tw) := hB9.cell 3
    have y4 : w9.cell? ⟨w.heap.size, 4, none⟩ = some (.string tt) := hB9.cell 4
    have y5 : w9.cell? ⟨w.heap.size, 5, none⟩ = some (.int .i64 0) := hB9.cell 5
    exact bodyPost_ret (v := .agg #[.bool true, .bool true, .bool false, .bool tw, .string tt, .int .i64 0]) (by simp [results, Tryz.results107, go_sem, y0, y1, y2, y3, y4, y5]) rfl ⟨by rw [HR1.out]; rfl, hE.growB hx9 (Nat.le_refl _)⟩
   | some u =>
    rw [show getV (some u) = .tuple #[.string u, .bool true] from rfl]
    have hu := V2.out u rfl
    go_wp2_with fail
    refine (HP.out _ hE u hu).mono ?_; rintro e w6 ⟨rfl, hb6⟩
    replace HB1 := zi (HB1.out.ext hb6); replace HB2 := zi (HB2.out.ext hb6); replace hE := hE.trans hb6
    have e2 : w6.cell? ⟨w.heap.size + 1, 2, none⟩ = some (.bool false) := HB2.out.cell 2; have e5 : w6.cell? ⟨w.heap.size + 1, 5, none⟩ = some (.int .i64 0) := HB2.out.cell 5
    have g2 : w6.frozen? ⟨w.heap.size + 1, 2, none⟩ = false := HB2.out.frozen 2; have g5 : w6.frozen? ⟨w.heap.size + 1, 5, none⟩ = false := HB2.out.frozen 5
    have HBs := zi (fun (b : Bool) (m : Int) => (show Blk ((w6.setCell ⟨w.heap.size + 1, 2, none⟩ (.bool b)).setCell ⟨w.heap.size + 1, 5, none⟩ (.int .i64 m)) (w.heap.size + 1) 187 #[.bool true, .bool true, .bool b, .bool tw, .string tt, .int .i64 m] from (HB2.out.set_ 2 _).set_ 5 _))
    have HB1s := zi (fun (b : Bool) (m : Int) => (show Blk ((w6.setCell ⟨w.heap.size + 1, 2, none⟩ (.bool b)).setCell ⟨w.heap.size + 1, 5, none⟩ (.int .i64 m)) w.heap.size 187 #[.bool false, .bool false, .bool false, .bool false, .string ⟨#[]⟩, .int .i64 0] from (HB1.out.far (p := ⟨w.heap.size + 1, 2, none⟩) (by simp) _).far (p := ⟨w.heap.size + 1, 5, none⟩) (by simp) _))
    have HEs := zi (fun (b : Bool) (m : Int) => ((hE.setCell (p := ⟨w.heap.size + 1, 2, none⟩) (by simp) (.bool b)).setCell (p := ⟨w.heap.size + 1, 5, none⟩) (by simp) (.int .i64 m)))
    cases hdp : dateP u with
    | none =>
     rw [show dpV none = .tuple #[.int .i64 0, .iface 63 (.int .i64 2)] from rfl]
     have HB2 := zi (HBs.out false 0); have HB1 := zi (HB1s.out false 0); have hE := HEs.out false 0
     go_upto_region 10 with fail
     clear e2 e5 g2 g5
     generalize ((w6.setCell ⟨w.heap.size + 1, 2, none⟩ (.bool false)).setCell ⟨w.heap.size + 1, 5, none⟩ (.int .i64 0)) = w7 at *
     have d0 : w7.cell? ⟨w.heap.size + 1, 0, none⟩ = some (.bool true) := HB2.out.cell 0
     have d1 : w7.cell? ⟨w.heap.size + 1, 1, none⟩ = some (.bool true) := HB2.out.cell 1
     have d2 : w7.cell? ⟨w.heap.size + 1, 2, none⟩ = some (.bool false) := HB2.out.cell 2
     have d3 : w7.cell? ⟨w.heap.size + 1, 3, none⟩ = some (.bool tw) := HB2.out.cell 3
     have d4 : w7.cell? ⟨w.heap.size + 1, 4, none⟩ = some (.string tt) := HB2.out.cell 4
     have d5 : w7.cell? ⟨w.heap.size + 1, 5, none⟩ = some (.int .i64 0) := HB2.out.cell 5
     go_wp2_with (first | (refine wpList_storeB rfl 187 (.tmp 2) (.tmp 45) rfl rfl w.heap.size _ rfl rfl 187 _ HB1.out infoSt rfl (by simp [Value.oneCell']) ?_; intro w9 hB9 hx9))
     have y0 : w9.cell? ⟨w.heap.size, 0, none⟩ = some (.bool true) := hB9.cell 0
     have y1 : w9.cell? ⟨w.heap.size, 1, none⟩ = some (.bool true) := hB9.cell 1
     have y2 : w9.cell? ⟨w.heap.size, 2, none⟩ = some (.bool false) := hB9.cell 2
     have y3 : w9.cell? ⟨w.heap.size, 3, none⟩ = some (.bool tw) := hB9.cell 3
     have y4 : w9.cell? ⟨w.heap.size, 4, none⟩ = some (.string tt) := hB9.cell 4
     have y5 : w9.cell? ⟨w.heap.size, 5, none⟩ = some (.int .i64 0) := hB9.cell 5
     exact bodyPost_ret (v := .agg #[.bool true, .bool true, .bool false, .bool tw, .string tt, .int .i64 0]) (by simp [results, Tryz.results107, go_sem, y0, y1, y2, y3, y4, y5]) rfl ⟨by rw [HR1.out, show (some u).bind dateP = dateP u from rfl, hdp]; rfl, hE.growB hx9 (Nat.le_refl _)⟩
    | some m =>
     rw [show dpV (some m) = .tuple #[.int .i64 m, .nilIface] from rfl]
     have HB2 := zi (HBs.out true m); have HB1 := zi (HB1s.out true m); have hE := HEs.out true m
     go_upto_region 10 with fail
     clear e2 e5 g2 g5
     generalize ((w6.setCell ⟨w.heap.size + 1, 2, none⟩ (.bool true)).setCell ⟨w.heap.size + 1, 5, none⟩ (.int .i64 m)) = w7 at *
     have d0 : w7.cell? ⟨w.heap.size + 1, 0, none⟩ = some (.bool true) := HB2.out.cell 0
     have d1 : w7.cell? ⟨w.heap.size + 1, 1, none⟩ = some (.bool true) := HB2.out.cell 1
     have d2 : w7.cell? ⟨w.heap.size + 1, 2, none⟩ = some (.bool true) := HB2.out.cell 2
     have d3 : w7.cell? ⟨w.heap.size + 1, 3, none⟩ = some (.bool tw) := HB2.out.cell 3
     have d4 : w7.cell? ⟨w.heap.size + 1, 4, none⟩ = some (.string tt) := HB2.out.cell 4
     have d5 : w7.cell? ⟨w.heap.size + 1, 5, none⟩ = some (.int .i64 m) := HB2.out.cell 5
     go_wp2_with (first | (refine wpList_storeB rfl 187 (.tmp 2) (.tmp 45) rfl rfl w.heap.size _ rfl rfl 187 _ HB1.out infoSt rfl (by simp [Value.oneCell']) ?_; intro w9 hB9 hx9))
     have y0 : w9.cell? ⟨w.heap.size, 0, none⟩ = some (.bool true) := hB9.cell 0
     have y1 : w9.cell? ⟨w.heap.size, 1, none⟩ = some (.bool true) := hB9.cell 1
     have y2 : w9.cell? ⟨w.heap.size, 2, none⟩ = some (.bool true) := hB9.cell 2
     have y3 : w9.cell? ⟨w.heap.size, 3, none⟩ = some (.bool tw) := hB9.cell 3
     have y4 : w9.cell? ⟨w.heap.size, 4, none⟩ = some (.string tt) := hB9.cell 4
     have y5 : w9.cell? ⟨w.heap.size, 5, none⟩ = some (.int .i64 m) := hB9.cell 5
     exact bodyPost_ret (v := .agg #[.bool true, .bool true, .bool true, .bool tw, .string tt, .int .i64 m]) (by simp [results, Tryz.results107, go_sem, y0, y1, y2, y3, y4, y5]) rfl ⟨by rw [HR1.out, show (some u).bind dateP = dateP u from rfl, hdp]; rfl, hE.growB hx9 (Nat.le_refl _)⟩
end Go.Proofs.YtmckbcbdnckngaaGreatDoor

namespace Go.Proofs.YtmckbcbdnckngaaGreatDoor
open Go.RowKit

theorem field_AllO (A : Option Addr) (n c : Nat) (fs : List Fd) (name : ByteArray) (w : World) (hf : RdF w A n fs)
  (hn : n ≤ 1073741824) (hs : name.size ≤ 9223372036854775807) (hsz : ∀ f ∈ fs, f.1.size ≤ 9223372036854775807) :
  Calls Tryz.prog 50 #[.slice A n c, .string name] w fun e w' => ∃ A' n' c', e = .returned (.slice A' n' c') ∧ RdS w' A' n' (allS fs name) ∧ n' ≤ c' ∧ Ext w w' ∧ w'.ownsRow w.heap.size 9 1 (.slice A' n' c') n' (strCells (allS fs name)) := by
 go_enter Tryz.func50, Tryz.ntmps50
 go_wp2_with (go_at_call 65; refine (field_lower _ _ (by assumption)).mono ?_; rintro e w1 ⟨rfl, hb1⟩)
 go_loopw [5, 12] (fun v i wr => ∃ k m A' c', k ≤ n ∧ i = .int .i64 (k : Nat) ∧ v = .slice A' m c' ∧ wr.ownsRow w1.heap.size 9 1 (.slice A' m c') m (strCells (allS (fs.take k) name)) ∧ m ≤ c' ∧ Ext w1 wr) (fun _ i _ => n - (intOf i).toNat)
 case atStart => exact ⟨0, 0, none, 0, Nat.zero_le _, rfl, rfl, World.ownsRow_nil _ _ _ _, Nat.le_refl _, Ext.refl _⟩
 case round =>
  obtain ⟨k, m, A', c', hk, rfl, rfl, hown, hmc, hbr⟩ := hrel
  by_cases hlt : k < n
  ·have hl := hf.lenF
   have hlt' : k < fs.length := by omega
   obtain ⟨b, o, rfl, hc0, hc1⟩ := (hf.ext (hb1.trans hbr)).atF hlt'
   have hbd := hsz fs[k] (List.getElem_mem hlt')
   have hm1 := hown.1
   simp only [List.length_map, Nat.mul_one] at hm1
   have hmk := allS_len fs name k
   rw [hm1] at hmk
   have Hl := zi hl; clear hl
   have Hm := zi hm1; clear hm1
   by_cases hy : isN name fs[k] = true
   ·have Hst := zi (allS_yes hlt' hy)
    unfold isN at hy
    generalize fs[k].1 = nm at *
    generalize fs[k].2 = vl at *
    go_wp2_with (first
     | (go_at_call 65; refine (field_lower _ _ (by assumption)).mono ?_; rintro e w2 ⟨rfl, hb2⟩; have hc2 := hb2.cells; have hz2 := hb2.size)
     | (at_builtin; refine wpList_app _ rfl (.tmp 21) (.tmp 24) 53 rfl w1 9 _ 1 16 Tryz.underlying53 infoStr rfl (by decide) _ _ _ rfl ((own_ext (hown.alloc _) hb2).alloc _) _ 1 1 [.string vl] rfl (Rd.one _ _ _ (by simp)) (strCells_one [vl]) (((hbr.alloc _).trans hb2).alloc _) (by omega) (by decide) ?_; intro A2 c2 w3 hown3 hb3 hle3))
    go_roundw
    case rel => exact ⟨k + 1, m + 1, A2, c2, by omega, by go_num, rfl, by rw [Hst.out]; simpa using hown3, hle3, hb3⟩
    case measure => simp [intOf]; omega
   ·have hy : isN name fs[k] = false := by simpa using hy
    have Hst := zi (allS_no hlt' hy)
    unfold isN at hy
    generalize fs[k].1 = nm at *
    generalize fs[k].2 = vl at *
    go_wp2_with (first
     | (go_at_call 65; refine (field_lower _ _ (by assumption)).mono ?_; rintro e w2 ⟨rfl, hb2⟩; have hc2 := hb2.cells; have hz2 := hb2.size))
    go_roundw
    case rel => exact ⟨k + 1, m, A', c', by omega, by go_num, rfl, by rw [Hst.out]; exact own_ext (hown.alloc _) hb2, hmc, (hbr.alloc _).trans hb2⟩
    case measure => simp [intOf]; omega
  ·have hk' : k = n := by omega
   have hl := hf.lenF
   go_wp2
   go_ret
   rw [List.take_of_length_le (by omega)] at hown
   exact ⟨_, _, _, rfl, Rd.of_own hown, hmc, hb1.trans hbr, own_base hown hb1.size⟩
end Go.Proofs.YtmckbcbdnckngaaGreatDoor

namespace Go.Proofs.YtmckbcbdnckngaaGreatDoor
open Go.RowKit

theorem Rd.setS {w : World} {b o n j : Nat} {xs : List ByteArray} (h : RdS w (some ⟨b, o, none⟩) n xs) (hj : j < n) (x : ByteArray) :
  RdS (w.setCell ⟨b, o + j, none⟩ (.string x)) (some ⟨b, o, none⟩) n (xs.set j x) := by
 have hl := h.lenS
 refine ⟨by simp [strCells, hl], fun _ => ⟨b, o, rfl, fun i u hu => ?_⟩⟩
 obtain ⟨b', o', e, hc⟩ := h.2 (by simp; omega)
 injection e with e
 injection e with e1 e2
 subst e1; subst e2
 have hi : i < xs.length := by
  rcases Nat.lt_or_ge i xs.length with h1 | h1
  ·exact h1
  ·rw [List.getElem?_eq_none (by simpa [strCells] using h1)] at hu; cases hu
 have hold : w.cell? ⟨b, o + i, none⟩ = some (.string xs[i]) := hc i _ (by simp [strCells, List.getElem?_eq_getElem hi])
 by_cases hij : i = j
 ·subst hij
  rw [World.cell?_setCell_same _ _ _ hold]
  rw [show (strCells (xs.set i x))[i]? = some (.string x) by rw [strCells, List.getElem?_map, List.getElem?_set_self hi]; rfl] at hu
  exact hu
 ·rw [World.cell?_setCell_other _ _ _ _ (by intro e; injection e with _ e; omega), hold]
  rw [show (strCells (xs.set j x))[i]? = some (.string xs[i]) by rw [strCells, List.getElem?_map, List.getElem?_set_ne (Ne.symm hij), List.getElem?_eq_getElem hi]; rfl] at hu
  exact hu
theorem set_map {f : ByteArray → ByteArray} {L : List ByteArray} {j : Nat} (h : j < L.length) :
  ((L.take j).map f ++ L.drop j).set j (f L[j]) = (L.take (j + 1)).map f ++ L.drop (j + 1) := by
 rw [List.set_append_right _ _ (by simp; omega)]
 have h1 : j - ((L.take j).map f).length = 0 := by simp; omega
 rw [h1, List.drop_eq_getElem_cons h, List.set_cons_zero, List.take_succ_eq_append_getElem h, List.map_append, List.append_assoc]
 try rfl
theorem map_drop_at {f : ByteArray → ByteArray} {L : List ByteArray} {j : Nat} (h : j < L.length) (h' : j < ((L.take j).map f ++ L.drop j).length) :
  ((L.take j).map f ++ L.drop j)[j] = L[j] := by
 rw [List.getElem_append_right (by simp; omega)]
 simp
 congr 1
 omega
end Go.Proofs.YtmckbcbdnckngaaGreatDoor

namespace Go.Proofs.YtmckbcbdnckngaaGreatDoor
open Go.RowKit

theorem sumF_mem {fs : List Fd} {f : Fd} (h : f ∈ fs) : f.1.size + f.2.size ≤ sumF fs := by
 unfold sumF
 induction fs with
 | nil => cases h
 | cons g l ih =>
  simp only [List.map_cons, List.sum_cons]
  rcases List.mem_cons.1 h with rfl | h
  ·omega
  ·have := ih h; omega
theorem allS_mem {fs : List Fd} {x y : ByteArray} (h : y ∈ allS fs x) : y.size ≤ sumF fs := by
 obtain ⟨f, hf, rfl⟩ := List.mem_map.1 h
 have := sumF_mem (List.mem_filter.1 hf).1
 omega
theorem own_frozen {w : World} {base e k n m c : Nat} {A : Option Addr} {xs : List Value} (h : w.ownsRow base e k (.slice A m c) n xs) (h0 : 0 < n) :
  ∃ g, A = some ⟨g, 0, none⟩ ∧ base ≤ g ∧ g < w.heap.size ∧ ∀ q, w.frozen? ⟨g, q, none⟩ = false := by
 rcases h.2 with ⟨hv, h1⟩ | ⟨g, cap, cur, hv, hb, hg, _⟩
 ·omega
 ·obtain ⟨rfl, -, -⟩ := slice_inj hv
  exact ⟨g, rfl, hb, (Array.getElem?_eq_some_iff.1 hg).1, fun q => frozen_of_row _ _ _ _ _ hg⟩
theorem nrmV_size (s : ByteArray) : (nrmV s).size ≤ 2 * s.size := by
 rw [nrm_end]; show (List.toArray _).size ≤ _
 have := nrm_len s s.size
 simpa using this
theorem totS_nrm : ∀ l : List ByteArray, totS (l.map nrmV) ≤ 2 * totS l
 | [] => by simp [totS]
 | x :: l => by
  have h1 := nrmV_size x; have h2 := totS_nrm l
  simp only [totS, List.map_cons, List.sum_cons] at h2 ⊢
  omega
theorem jn_nrm (fs : List Fd) (x : ByteArray) : (jnS 44 ((allS fs x).map nrmV)).size ≤ 2 * (sumF fs + 2 * fs.length) := by
 have h1 := jnS_size 44 ((allS fs x).map nrmV); have h2 := totS_nrm (allS fs x); have h3 := totS_all fs x
 rw [List.length_map] at h1
 omega
theorem partK_size (fs : List Fd) (x : ByteArray) : (partK fs x).size ≤ x.size + 4 * (sumF fs + 2 * fs.length) + 3 := by
 unfold partK
 have h1 := jn_nrm fs x; have h2 := quoV_size (jnS 44 ((allS fs x).map nrmV))
 split
 ·omega
 ·rw [ByteArray.size_append, ByteArray.size_append, show (⟨#[61]⟩ : ByteArray).size = 1 from rfl]
  split
  ·rw [show (⟨#[]⟩ : ByteArray).size = 0 from rfl]; omega
  ·omega
theorem partK_none {fs : List Fd} {x : ByteArray} (h : allS fs x = []) : partK fs x = x := by unfold partK; rw [h]; rfl
theorem partK_some {fs : List Fd} {x : ByteArray} (h : allS fs x ≠ []) : partK fs x = x ++ ⟨#[61]⟩ ++ (if ctlS (jnS 44 ((allS fs x).map nrmV)) then ⟨#[]⟩ else quoV (jnS 44 ((allS fs x).map nrmV))) := by
 unfold partK; rw [if_neg (by simpa using h)]
theorem nrm_done {L : List ByteArray} : (L.take L.length).map nrmV ++ L.drop L.length = L.map nrmV := by simp
theorem rd_done {w : World} {A : Option Addr} {n j : Nat} {L : List ByteArray} (h : RdS w A n ((L.take j).map nrmV ++ L.drop j)) (hl : L.length = j) : RdS w A n (L.map nrmV) := by
 subst hl; rwa [nrm_done] at h
theorem vr_Key (A : Option Addr) (n c : Nat) (names : List ByteArray) (B : Option Addr) (m d : Nat) (fs : List Fd) (w : World)
  (hr : RdS w A n names) (hf : RdF w B m fs) (hn : n ≤ 1048576) (hm : m ≤ 1048576) (hns : ∀ x ∈ names, x.size ≤ 1048576) (hz : sumF fs ≤ 1048576) :
  Calls Tryz.prog 22 #[.slice A n c, .slice B m d] w fun e w' => e = .returned (.string (vkyS names fs)) ∧ Ext w w' := by
 have HAll := zi (fun x w' (hx : x.size ≤ 1048576) (h : Ext w w') => field_AllO B m d fs x w' (hf.ext h) (by omega) (by omega) (fun f hf => by have := sumF_mem hf; omega))
 have Hjn := zi (jn_nrm fs); have Hlf := zi hf.lenF; have Hln := zi hr.lenS
 have HK := zi (show vkyS names fs = jnS 38 ((names.take n).map (partK fs)) by rw [List.take_of_length_le (by rw [hr.lenS]; exact Nat.le_refl _)]; rfl)
 have Hal := zi (fun x => totS_all fs x)
 have Hst := zi (fun k (h : k < names.length) => map_step (partK fs) names k h)
 have Hsz := zi (fun k (hk : k ≤ n) => show totS ((names.take k).map (partK fs)) ≤ k * 16777216 by
  have h1 := totS_le ((names.take k).map (partK fs)) 16777216 (fun y hy => by
   obtain ⟨x, hx, rfl⟩ := List.mem_map.1 hy
   have h2 := partK_size fs x; have h3 := hns x (List.mem_of_mem_take hx); have h4 := hf.lenF
   omega)
  have h5 : ((names.take k).map (partK fs)).length ≤ k := by simp; omega
  exact Nat.le_trans h1 (Nat.mul_le_mul_right _ h5))
 generalize vkyS names fs = R at *
 go_enter Tryz.func22, Tryz.ntmps22
 go_wp2_with fail
 go_loopw [5, 14] (fun v i wr => ∃ k A' c', k ≤ n ∧ i = .int .i64 (k : Nat) ∧ v = .slice A' k c' ∧ wr.ownsRow w.heap.size 9 1 (.slice A' k c') k (strCells ((names.take k).map (partK fs))) ∧ k ≤ c' ∧ Ext w wr) (fun _ i _ => n - (intOf i).toNat)
 case atStart => exact ⟨0, none, 0, Nat.zero_le _, rfl, rfl, World.ownsRow_nil _ _ _ _, Nat.le_refl _, Ext.refl _⟩
 case round =>
  obtain ⟨k, A', c', hk, rfl, rfl, hown, hkc, hbr⟩ := hrel
  by_cases hlt : k < n
  ·have hlt' : k < names.length := by have := Hln.out; omega
   obtain ⟨b, o, rfl, hc0⟩ := (hr.ext hbr).atS hlt'
   have hxs := hns names[k] (List.getElem_mem hlt')
   have Hst := zi (Hst.out k hlt')
   have Hal := zi (Hal.out names[k]); have Hjn := zi (Hjn.out names[k])
   have HAll := zi (fun w' h => HAll.out names[k] w' hxs h)
   have Hno := zi (@partK_none fs names[k]); have Hso := zi (@partK_some fs names[k])
   clear Hsz
   generalize names[k] = x at *
   generalize hwr0 : wr = wr0 at *
   clear hwr0
   go_wp2_with fail
   refine (HAll.out _ hbr).mono ?_; rintro e w2 ⟨A2, n2, c2, rfl, hr2, hnc2, hb2, hown2⟩; clear HAll
   have hl2 := hr2.lenS
   generalize hL : allS fs x = L at *
   by_cases h0 : n2 = 0
   ·subst h0
    have hL0 : L = [] := List.eq_nil_of_length_eq_zero hl2
    have HN := zi (Hst.out.trans (by rw [Hno.out hL0]))
    clear hl2 Hno Hso Hst
    have hb2' := hbr.trans hb2
    have hown' := own_ext hown hb2
    go_wp2_with (at_builtin; refine wpList_app _ rfl (.tmp 24) (.tmp 26) 53 rfl w 9 _ 1 16 Tryz.underlying53 infoStr rfl (by decide) _ _ _ rfl (hown'.alloc _) _ 1 1 [.string x] rfl (Rd.one _ _ _ (by simp)) (by intro u hu; simp at hu; subst hu; rfl) (hb2'.alloc _) (by omega) (by decide) ?_; intro A3 c3 w3 hown3 hb3 hle3)
    go_roundw
    case rel => exact ⟨k + 1, A3, c3, by omega, by go_num, rfl, by rw [HN.out, cells_snoc]; exact hown3, hle3, hb3⟩
    case measure => simp [intOf]; omega
   ·have hq0 : ((n2 : Int) == 0) = false := by simpa using h0
    have hLn : L ≠ [] := by intro e; rw [e] at hl2; simp at hl2; omega
    have HN := zi (Hst.out.trans (by rw [Hso.out hLn]))
    obtain ⟨g, rfl, hg0, hg1, hfz⟩ := own_frozen hown2 (by omega)
    
    have HR2 := zi (show RdS w2 (some ⟨g, 0, none⟩) n2 ((L.take 0).map nrmV ++ L.drop 0) by simpa using hr2)
    have hn2 : n2 ≤ 4194304 := by have := Hal.out; have := Hlf.out; omega
    have Hl2 := zi hl2; have HnL := zi (show ∀ j (h : j < L.length), L[j].size ≤ 1048576 from fun j h => Nat.le_trans (allS_mem (fs := fs) (x := x) (by rw [hL]; exact List.getElem_mem h)) hz)
    clear hl2 Hno Hso Hst hr2 hown2 hLn hL
    go_wp2_with fail
    go_loopw [30] (fun i wj => ∃ j, j ≤ n2 ∧ i = .int .i64 (j : Nat) ∧ RdS wj (some ⟨g, 0, none⟩) n2 ((L.take j).map nrmV ++ L.drop j) ∧ Ext wr0 wj ∧ g < wj.heap.size ∧ (∀ q, wj.frozen? ⟨g, q, none⟩ = false)) (fun i _ => n2 - (intOf i).toNat)
    case atStart => exact ⟨0, Nat.zero_le _, rfl, HR2.out, hb2, hg1, hfz⟩
    case round =>
     obtain ⟨j, hj, rfl, hrj, hbj, hgj, hfj⟩ := hrel
     by_cases hjt : j < n2
     ·have hjL : j < L.length := by have := Hl2.out; omega
      have hlj := hrj.lenS
      obtain ⟨b9, o9, hbo, hcj⟩ := hrj.atS (k := j) (by omega)
      rw [map_drop_at hjL] at hcj
      injection hbo with hbo
      injection hbo with e1 e2
      subst e1; subst e2
      rw [Nat.zero_add] at hcj
      have hLs := HnL.out j hjL
      have Hset := zi (@set_map nrmV L j hjL)
      have Hrj := zi hrj
      clear hrj hlj
      generalize L[j] = y at *
      go_wp2_with fail
      refine (vr_normal y _ (by omega)).mono ?_; rintro e w5 ⟨rfl, hb5⟩
      have hcj5 := hb5.cell hcj
      have hfj5 : ∀ q, w5.frozen? ⟨g, q, none⟩ = false := fun q => (hb5.frozens g q hgj).trans (hfj q)
      have hgj5 := Nat.lt_of_lt_of_le hgj hb5.size
      have hfj6 := hfj5 j
      go_wp2_with fail
      go_roundw
      case rel =>
       refine ⟨j + 1, by omega, by go_num, ?_, Ext.setCell (hbj.trans hb5) (p := ⟨g, j, none⟩) hg0 _, by simpa [World.setCell] using hgj5, fun q => by rw [World.frozen?_setCell]; exact hfj5 q⟩
       have := Rd.setS (Hrj.out.ext hb5) hjt (nrmV y)
       rw [Nat.zero_add] at this
       rw [Hset.out] at this
       exact this
      case measure => simp [intOf]; omega
     ·obtain rfl : j = n2 := by omega
      have hrN := rd_done hrj Hl2.out
      have hJ : totS (L.map nrmV) + j ≤ 70368744177664 := by have h1 := totS_nrm L; have h2 := Hal.out; have h3 := Hlf.out; omega
      have hJs : (jnS 44 (L.map nrmV)).size ≤ 6291456 := by have h1 := Hjn.out; have h2 := Hlf.out; omega
      clear hrj hjt hj HnL Hal HR2
      go_wp2_with fail
      refine (str_Join1 _ _ _ _ 44 _ hrN (by omega) hJ).mono ?_; rintro e w6 ⟨rfl, hb6⟩
      generalize jnS 44 (L.map nrmV) = JJ at *
      go_wp2_with fail
      refine (syn_Quote _ _ (by omega)).mono ?_; rintro e w7 ⟨rfl, hb7⟩
      have hE := hbr.trans ((hbj.trans hb6).trans hb7)
      have hown7 := own_ext hown ((hbj.trans hb6).trans hb7)
      have hqs := quoV_size JJ
      have h1 : ∀ w, (Op.stringOp .add x ⟨#[61]⟩).run Tryz.prog w = .ok (.string (x ++ ⟨#[61]⟩)) w := fun w => run_string_add_sum w _ _ (by rw [show (⟨#[61]⟩ : ByteArray).size = 1 from rfl]; omega)
      cases hct : ctlS JJ
      ·rw [hct, if_neg (by simp)] at HN
       rw [show qtV JJ = .tuple #[.string (quoV JJ), .nilIface] by unfold qtV; rw [hct]; rfl]
       have h2 : ∀ w, (Op.stringOp .add (x ++ ⟨#[61]⟩) (quoV JJ)).run Tryz.prog w = .ok (.string (x ++ ⟨#[61]⟩ ++ quoV JJ)) w := fun w => run_string_add_sum w _ _ (by rw [ByteArray.size_append, show (⟨#[61]⟩ : ByteArray).size = 1 from rfl]; omega)
       clear hct hqs hJs hJ hrN hown
       go_wp2_with (first | (at_builtin; refine wpList_app _ rfl (.tmp 50) (.tmp 55) 53 rfl w 9 _ 1 16 Tryz.underlying53 infoStr rfl (by decide) _ _ _ rfl (hown7.alloc _) _ 1 1 [.string (x ++ ⟨#[61]⟩ ++ quoV JJ)] rfl (Rd.one _ _ _ (by simp)) (by intro u hu; simp at hu; subst hu; rfl) (hE.alloc _) (by omega) (by decide) ?_; intro A3 c3 w3 hown3 hb3 hle3))
       go_roundw
       case rel => exact ⟨k + 1, A3, c3, by omega, by go_num, rfl, by rw [HN.out, cells_snoc]; exact hown3, hle3, hb3⟩
       case measure => simp [intOf]; omega
      ·rw [hct, if_pos rfl] at HN
       rw [show qtV JJ = .tuple #[.string ⟨#[]⟩, errV 2] by unfold qtV; rw [hct]; rfl, show errV 2 = .iface 63 (.int .i64 2) from rfl]
       have h2 : ∀ w, (Op.stringOp .add (x ++ ⟨#[61]⟩) ⟨#[]⟩).run Tryz.prog w = .ok (.string (x ++ ⟨#[61]⟩ ++ ⟨#[]⟩)) w := fun w => run_string_add_sum w _ _ (by rw [ByteArray.size_append, show (⟨#[61]⟩ : ByteArray).size = 1 from rfl, show (⟨#[]⟩ : ByteArray).size = 0 from rfl]; omega)
       clear hct hqs hJs hJ hrN hown
       go_wp2_with (first | (at_builtin; refine wpList_app _ rfl (.tmp 50) (.tmp 55) 53 rfl w 9 _ 1 16 Tryz.underlying53 infoStr rfl (by decide) _ _ _ rfl (hown7.alloc _) _ 1 1 [.string (x ++ ⟨#[61]⟩ ++ ⟨#[]⟩)] rfl (Rd.one _ _ _ (by simp)) (by intro u hu; simp at hu; subst hu; rfl) (hE.alloc _) (by omega) (by decide) ?_; intro A3 c3 w3 hown3 hb3 hle3))
       go_roundw
       case rel => exact ⟨k + 1, A3, c3, by omega, by go_num, rfl, by rw [HN.out, cells_snoc]; exact hown3, hle3, hb3⟩
       case measure => simp [intOf]; omega
  ·obtain rfl : k = n := by omega
   have hJ := Hsz.out k (Nat.le_refl _)
   clear hlt hk Hsz Hst HAll
   go_wp2_with fail
   refine (str_Join1 _ _ _ _ 38 _ (Rd.of_own hown) hkc (by omega)).mono ?_; rintro e w6 ⟨rfl, hb6⟩
   go_wp2_with fail
   go_ret
   exact ⟨by rw [HK.out, List.map_take]; rfl, hbr.trans hb6⟩
end Go.Proofs.YtmckbcbdnckngaaGreatDoor

namespace Go.Proofs.YtmckbcbdnckngaaGreatDoor
open Go.RowKit

theorem chs_hit {v : Ver} {fs : List Fd} {l : List (Vr × VrM)} {k : Nat} (h : k < l.length) (hq : (vkyS l[k].1.names fs == l[k].1.key) = true) :
  chsS v fs k ((l.map (·.1)).drop k) = ((if l[k].1.tag.size == 0 then remS v.fs x_et else setS x_et l[k].1.tag v.fs), l[k].1.body, k + 1) := by
 rw [List.drop_eq_getElem_cons (by simpa using h), List.getElem_map]
 unfold chsS; rw [if_pos hq]
theorem chs_step {v : Ver} {fs : List Fd} {l : List (Vr × VrM)} {k : Nat} (h : k < l.length) (hq : (vkyS l[k].1.names fs == l[k].1.key) = false) :
  chsS v fs k ((l.map (·.1)).drop k) = chsS v fs (k + 1) ((l.map (·.1)).drop (k + 1)) := by
 rw [List.drop_eq_getElem_cons (by simpa using h), List.getElem_map]
 conv => lhs; unfold chsS
 rw [if_neg (by rw [hq]; simp)]
theorem chs_end {v : Ver} {fs : List Fd} {l : List (Vr × VrM)} {k : Nat} (h : l.length ≤ k) : chsS v fs k ((l.map (·.1)).drop k) = (v.fs, v.body, 0) := by
 rw [List.drop_of_length_le (by simpa using h)]; rfl
theorem or_chosen (Q : Nat → Prop) (m : MV) (rA : Option Addr) (rn rc : Nat) (rfs : List Fd) (w : World) (h : m.At Q w) (hr : RdF w rA rn rfs) (hQ : ∀ i, Q i → i < w.heap.size)
  (hf : m.f.length ≤ 1048576) (hT : sumF m.f ≤ 1048576) (hv : m.vars.length ≤ 1048576) (hx : ∀ x ∈ m.vars, x.1.names.length ≤ 1048576 ∧ (∀ n ∈ x.1.names, n.size ≤ 1048576) ∧ x.1.tag.size ≤ 1048576)
  (hrn : rn ≤ 1048576) (hrT : sumF rfs ≤ 1048576) (hg : Gl w) :
  Calls Tryz.prog 106 #[.agg m.cells.toArray, .slice rA rn rc] w fun e w' => ∃ s1 s2 : Sl, e = .returned (.tuple #[s1.v, s2.v, .int .i64 ((chS m.ver rfs).2.2 : Nat)]) ∧
   RS Q w' 2 s1 (fldCells (chS m.ver rfs).1) ∧ RS Q w' 1 s2 (bytC (chS m.ver rfs).2.1) ∧ Ext w w' := by
 have hfl := h.fs.rd.lenF
 have hvl := h.vlen
 have hbz := bszF m.f
 have HRm := zi (fun w' (hh : Ext w w') => field_Remove m.fs.A m.fs.n m.fs.c m.f x_et w' (h.fs.rd.ext hh) (by omega) (by decide) (fun f hf => ⟨by have := (hbz f hf).1; omega, by have := (hbz f hf).2; omega⟩))
 have HSt := zi (fun w' tag (hh : Ext w w') => field_Set m.fs.A m.fs.n m.fs.c m.f x_et tag w' (h.fs.rd.ext hh) (by omega) (by decide) (fun f hf => ⟨by have := (hbz f hf).1; omega, by have := (hbz f hf).2; omega⟩))
 have HKy := zi (fun w' names (nm : Sl) (hh : Ext w w') (h1 : RdS w' nm.A nm.n names) (h2 : nm.n ≤ 1048576) (h3 : ∀ n ∈ names, n.size ≤ 1048576) => vr_Key nm.A nm.n nm.c names rA rn rc rfs w' h1 (hr.ext hh) h2 hrn h3 hrT)
 have HAt := zi h; have Hx := zi hx; have Hvl := zi hvl; have HQ := zi hQ
 have hvn : m.vr.n ≤ 1048576 := by omega
 have HC0 := zi (show chsS m.ver rfs 0 ((m.vars.map (·.1)).drop 0) = chS m.ver rfs from rfl)
 have Hhit := zi (fun k h => @chs_hit m.ver rfs m.vars k h); have Hstep := zi (fun k h => @chs_step m.ver rfs m.vars k h); have Hend := zi (fun k h => @chs_end m.ver rfs m.vars k h)
 have HE1 : m.ver.fs = m.f := rfl
 have HE2 : m.ver.body = m.body := rfl
 rw [HE1] at Hhit Hend
 rw [HE2] at Hend
 generalize chS m.ver rfs = CH at *
 generalize hcf : (fun k => chsS m.ver rfs k ((m.vars.map (·.1)).drop k)) = CF at *
 have HCF := zi (fun k => show chsS m.ver rfs k ((m.vars.map (·.1)).drop k) = CF k from congrFun hcf k)
 have Hhitb := zi (fun k h hq => (HCF.out k).symm.trans (Hhit.out k h hq))
 have Hstepb := zi (fun k h hq => (HCF.out k).symm.trans ((Hstep.out k h hq).trans (HCF.out (k + 1))))
 have Hendb := zi (fun k h => (HCF.out k).symm.trans (Hend.out k h))
 have HC0b := zi ((HCF.out 0).symm.trans HC0.out)
 clear Hhit Hstep Hend HC0 hfl hbz h hx hvl hQ hf hT hv hr hrT hg HE1 HE2 HCF hcf
 obtain ⟨addr, status, f, body, vars, ⟨fA, fn, fc⟩, ⟨bA, bn, bc⟩, ⟨vA, vn, vc⟩⟩ := m
 simp only [MV.cells, Sl.v] at *
 have HX := zi (Blk.new w 36 #[.string addr, .int .i64 status, .slice fA fn fc, .slice bA bn bc, .slice vA vn vc])
 have HW := zi ((Ext.refl w).alloc (.cells #[.string addr, .int .i64 status, .slice fA fn fc, .slice bA bn bc, .slice vA vn vc] 36))
 have HS := zi (fun w' (hh : Ext (w.alloc (.cells #[.string addr, .int .i64 status, .slice fA fn fc, .slice bA bn bc, .slice vA vn vc] 36)) w') => (⟨(HX.out.ext hh).cell 2, (HX.out.ext hh).cell 3, (HX.out.ext hh).cell 4⟩ : w'.cell? ⟨w.heap.size, 2, none⟩ = some (.slice fA fn fc) ∧ w'.cell? ⟨w.heap.size, 3, none⟩ = some (.slice bA bn bc) ∧ w'.cell? ⟨w.heap.size, 4, none⟩ = some (.slice vA vn vc)))
 obtain ⟨x2, x3, x4⟩ := HS.out _ (Ext.refl _)
 go_enter Tryz.func106, Tryz.ntmps106
 go_wp2_with fail
 clear x2 x3 x4
 generalize w.alloc (.cells #[.string addr, .int .i64 status, .slice fA fn fc, .slice bA bn bc, .slice vA vn vc] 36) = Wb at *
 go_loopw [12] (fun i wr => ∃ k : Nat, k ≤ vn ∧ i = .int .i64 (k : Nat) ∧ CF k = CH ∧ Ext Wb wr) (fun i _ => vn - (intOf i).toNat)
 case atStart => exact ⟨0, Nat.zero_le _, rfl, HC0b.out, Ext.refl _⟩
 case round =>
  obtain ⟨k, hk, rfl, hch, hbr⟩ := hrel
  by_cases hlt : k < vn
  ·have hlt' : k < vars.length := by have := Hvl.out; omega
   obtain ⟨b, o, hbo, c0, c1, c2, c3⟩ := (HAt.out.ext (HW.out.trans hbr)).var hlt'
   simp only at hbo
   subst hbo
   have Hh := zi (fun hq => hch.symm.trans (Hhitb.out k hlt' hq)); have Hs := zi (fun hq => (Hstepb.out k hlt' hq).symm.trans hch)
   have hxk := Hx.out _ (List.getElem_mem hlt')
   have HVk := zi (HAt.out.each _ (List.getElem_mem hlt'))
   clear hch
   generalize vars[k] = x at *
   obtain ⟨⟨names, key, tag, xb⟩, ⟨⟨nA, nn, nc⟩, ⟨dA, dn, dc⟩⟩⟩ := x
   simp only [Sl.v] at *
   have hnn : names.length = nn := HVk.out.nm.rd.lenS
   have HK := zi (fun w' (hh : Ext w w') => HKy.out w' names ⟨nA, nn, nc⟩ hh (HVk.out.nm.rd.ext hh) (by simp only; omega) hxk.2.1)
   have htz := hxk.2.2
   simp only at HK
   clear hxk hnn
   have HXv := zi (Blk.new wr 58 #[.slice nA nn nc, .string key, .string tag, .slice dA dn dc])
   have hE := hbr.alloc (.cells #[.slice nA nn nc, .string key, .string tag, .slice dA dn dc] 58)
   rw [beqB] at Hh Hs
   go_wp2_with fail
   have HSv := zi (fun w' (hh : Ext (wr.alloc (.cells #[.slice nA nn nc, .string key, .string tag, .slice dA dn dc] 58)) w') => (⟨(HXv.out.ext hh).cell 0, (HXv.out.ext hh).cell 1, (HXv.out.ext hh).cell 2, (HXv.out.ext hh).cell 3⟩ : w'.cell? ⟨wr.heap.size, 0, none⟩ = some (.slice nA nn nc) ∧ w'.cell? ⟨wr.heap.size, 1, none⟩ = some (.string key) ∧ w'.cell? ⟨wr.heap.size, 2, none⟩ = some (.string tag) ∧ w'.cell? ⟨wr.heap.size, 3, none⟩ = some (.slice dA dn dc)))
   have hV := (Ext.refl (wr.alloc (.cells #[.slice nA nn nc, .string key, .string tag, .slice dA dn dc] 58))).drew
   generalize wr.alloc (.cells #[.slice nA nn nc, .string key, .string tag, .slice dA dn dc] 58) = Wv at *
   generalize wr.heap.size = bv at *
   generalize hky : vkyS names rfs = ky at *
   clear hky c0 c1 c2 c3
   by_cases hkk : ky = key
   rotate_left
   ·have hq : (ky.toList == key.toList) = false := Bool.eq_false_iff.2 (fun e => hkk (eqS_iff.1 e))
    have HV := zi (Hs.out (by simp [hkk]))
    clear hkk Hh Hs
    refine wp_region_held_drew (S := (fun w' => w'.cell? ⟨bv, 0, none⟩ = some (.slice nA nn nc) ∧ w'.cell? ⟨bv, 1, none⟩ = some (.string key))) (by kernel_rfl) ?_ (fun hHeld => ?_)
    ·(try dsimp only); exact ⟨(HSv.out _ hV).1, (HSv.out _ hV).2.1⟩
    refine zH (v := ?_) 0 (some 17) rfl ?_ ?_; rotate_left
    ·(intro w hSw; (try dsimp only at hSw); go_simp; (try with_reducible rfl))
    try simp only [zP]
    refine zH (v := ?_) 1 (some 18) rfl ?_ ?_; rotate_left
    ·(intro w hSw; (try dsimp only at hSw); go_simp; (try with_reducible rfl))
    try simp only [zP]
    refine zH (v := ?_) 2 (some 19) rfl ?_ ?_; rotate_left
    ·(intro w hSw; (try dsimp only at hSw); go_simp; (try with_reducible rfl))
    try simp only [zP]
    refine zH (v := ?_) 4 (some 21) rfl ?_ ?_; rotate_left
    ·(intro w hSw; (try dsimp only at hSw); go_simp; (try with_reducible rfl))
    try simp only [zP]
    refine zH (v := ?_) 5 (some 22) rfl ?_ ?_; rotate_left
    ·(intro w hSw; (try dsimp only at hSw); go_simp; (try with_reducible rfl))
    try simp only [zP]
    refine wpAnyH_ready (rs := [3]) (by kernel_rfl) (by simp) ?_
    refine AllReadyH.cons (o := ⟨some 20, _, _, _, _, _⟩) rfl (fun K hK => ?_) AllReadyH.nil
    go_simp
    refine (HK.out _ (HW.out.trans (hE.trans hV))).mono ?_; rintro e w4 ⟨rfl, hb4⟩; replace hV := hV.trans hb4; clear hb4
    try go_wp2_with fail
    refine hK.out _ _ ?_ (fun hHeld => ?_)
    ·(try dsimp only); exact ⟨(HSv.out _ hV).1, (HSv.out _ hV).2.1⟩
    clear hK K
    try simp only [zP]
    refine zH (v := ?_) 6 (some 23) rfl ?_ ?_; rotate_left
    ·(intro w hSw; (try dsimp only at hSw); go_simp; (try with_reducible rfl))
    try simp only [zP]
    refine wpAnyH_done (by kernel_rfl) ?_ _
    go_wp2_with fail
    first | go_roundw | refine ⟨?rel, ?measure⟩
    case rel => exact ⟨k + 1, by omega, by go_num, HV.out, hE.trans hV⟩
    case measure => simp [intOf]; omega
   ·have hq : (ky.toList == key.toList) = true := eqS_iff.2 hkk
    have HV := zi (Hh.out (by simp [hkk]))
    clear hkk Hh Hs
    refine wp_region_held_drew (S := (fun w' => w'.cell? ⟨bv, 0, none⟩ = some (.slice nA nn nc) ∧ w'.cell? ⟨bv, 1, none⟩ = some (.string key))) (by kernel_rfl) ?_ (fun hHeld => ?_)
    ·(try dsimp only); exact ⟨(HSv.out _ hV).1, (HSv.out _ hV).2.1⟩
    refine zH (v := ?_) 0 (some 17) rfl ?_ ?_; rotate_left
    ·(intro w hSw; (try dsimp only at hSw); go_simp; (try with_reducible rfl))
    try simp only [zP]
    refine zH (v := ?_) 1 (some 18) rfl ?_ ?_; rotate_left
    ·(intro w hSw; (try dsimp only at hSw); go_simp; (try with_reducible rfl))
    try simp only [zP]
    refine zH (v := ?_) 2 (some 19) rfl ?_ ?_; rotate_left
    ·(intro w hSw; (try dsimp only at hSw); go_simp; (try with_reducible rfl))
    try simp only [zP]
    refine zH (v := ?_) 4 (some 21) rfl ?_ ?_; rotate_left
    ·(intro w hSw; (try dsimp only at hSw); go_simp; (try with_reducible rfl))
    try simp only [zP]
    refine zH (v := ?_) 5 (some 22) rfl ?_ ?_; rotate_left
    ·(intro w hSw; (try dsimp only at hSw); go_simp; (try with_reducible rfl))
    try simp only [zP]
    refine wpAnyH_ready (rs := [3]) (by kernel_rfl) (by simp) ?_
    refine AllReadyH.cons (o := ⟨some 20, _, _, _, _, _⟩) rfl (fun K hK => ?_) AllReadyH.nil
    go_simp
    refine (HK.out _ (HW.out.trans (hE.trans hV))).mono ?_; rintro e w4 ⟨rfl, hb4⟩; replace hV := hV.trans hb4; clear hb4
    try go_wp2_with fail
    refine hK.out _ _ ?_ (fun hHeld => ?_)
    ·(try dsimp only); exact ⟨(HSv.out _ hV).1, (HSv.out _ hV).2.1⟩
    clear hK K
    try simp only [zP]
    refine zH (v := ?_) 6 (some 23) rfl ?_ ?_; rotate_left
    ·(intro w hSw; (try dsimp only at hSw); go_simp; (try with_reducible rfl))
    try simp only [zP]
    refine wpAnyH_done (by kernel_rfl) ?_ _
    obtain ⟨v0, v1, v2, v3⟩ := HSv.out _ hV
    have hwk : IntKind.i64.wrap ((k : Int) + 1) = ((k + 1 : Nat) : Int) := by rw [IntWalk.i64_in _ (by omega)]; omega
    have hEw := HW.out.trans (hE.trans hV)
    by_cases htg : tag = ⟨#[]⟩
    ·have t1 := isE_yes htg
     have t2 : (tag.toList == []) = true := by rw [ByteArray.toList_eq, htg]; rfl
     obtain rfl : CH = (remS f x_et, xb, k + 1) := by rw [HV.out]; simp only [htg]; rfl
     clear htg
     go_wp2_with fail
     clear v0 v1 v2 v3
     replace hV := hV.drew
     refine wp_region_held_drew (S := (fun w' => w'.cell? ⟨w.heap.size, 2, none⟩ = some (.slice fA fn fc) ∧ w'.cell? ⟨bv, 2, none⟩ = some (.string tag) ∧ w'.cell? ⟨bv, 3, none⟩ = some (.slice dA dn dc))) (by kernel_rfl) ?_ (fun hHeld => ?_)
     ·(try dsimp only); exact ⟨(HS.out _ (hE.trans hV)).1, (HSv.out _ hV).2.2.1, (HSv.out _ hV).2.2.2⟩
     refine zH (v := ?_) 0 (some 27) rfl ?_ ?_; rotate_left
     ·(intro w hSw; (try dsimp only at hSw); go_simp; (try with_reducible rfl))
     try simp only [zP]
     refine zH (v := ?_) 1 (some 28) rfl ?_ ?_; rotate_left
     ·(intro w hSw; (try dsimp only at hSw); go_simp; (try with_reducible rfl))
     try simp only [zP]
     refine zH (v := ?_) 3 (some 30) rfl ?_ ?_; rotate_left
     ·(intro w hSw; (try dsimp only at hSw); go_simp; (try with_reducible rfl))
     try simp only [zP]
     refine zH (v := ?_) 4 (some 31) rfl ?_ ?_; rotate_left
     ·(intro w hSw; (try dsimp only at hSw); go_simp; (try with_reducible rfl))
     try simp only [zP]
     refine zH (v := ?_) 5 (some 32) rfl ?_ ?_; rotate_left
     ·(intro w hSw; (try dsimp only at hSw); go_simp; (try with_reducible rfl))
     try simp only [zP]
     refine zH (v := ?_) 6 (some 33) rfl ?_ ?_; rotate_left
     ·(intro w hSw; (try dsimp only at hSw); go_simp; (try with_reducible rfl))
     try simp only [zP]
     refine wpAnyH_ready (rs := [2]) (by kernel_rfl) (by simp) ?_
     refine AllReadyH.cons (o := ⟨some 29, _, _, _, _, _⟩) rfl (fun K hK => ?_) AllReadyH.nil
     go_simp
     refine (HRm.out _ (HW.out.trans (hE.trans hV))).mono ?_; rintro e w6 ⟨A6, n6, c6, rfl, -, hle6, hb6, hown6⟩; have hown6 := zi hown6; replace hV := hV.trans hb6; clear hb6
     try go_wp2_with fail
     refine hK.out _ _ ?_ (fun hHeld => ?_)
     ·(try dsimp only); exact ⟨(HS.out _ (hE.trans hV)).1, (HSv.out _ hV).2.2.1, (HSv.out _ hV).2.2.2⟩
     clear hK K
     try simp only [zP]
     refine zH (v := ?_) 7 (some 4) rfl ?_ ?_; rotate_left
     ·(intro w hSw; (try dsimp only at hSw); go_simp; (try with_reducible rfl))
     try simp only [zP]
     refine zH (v := ?_) 8 (some 5) rfl ?_ ?_; rotate_left
     ·(intro w hSw; (try dsimp only at hSw); go_simp; (try with_reducible rfl))
     try simp only [zP]
     refine zH (v := ?_) 9 (some 6) rfl ?_ ?_; rotate_left
     ·(intro w hSw; (try dsimp only at hSw); go_simp; (try with_reducible rfl))
     try simp only [zP]
     refine wpAnyH_done (by kernel_rfl) ?_ _
     go_wp2_with fail
     refine bodyPost_ret (v := .tuple #[.slice A6 n6 c6, .slice dA dn dc, .int .i64 ((k + 1 : Nat) : Int)]) (by simp [results, Tryz.results106, go_sem]) rfl ?_
     have hEf := HW.out.trans (hE.trans hV)
     refine ⟨⟨A6, n6, c6⟩, ⟨dA, dn, dc⟩, rfl, ⟨Rd.of_own (hown6.out), fun h1 a ha hb => ?_, hle6⟩, HVk.out.bd.ext hEf, hEf⟩
     have h9 := (hown6.out.lt a.block (by simp only at ha; subst ha; rfl)).1
     have h8 := HQ.out _ hb
     have h7 := hEw.drew.size
     omega
    ·have t1 := isE_no htg
     have t2 : (tag.toList == []) = false := by
      rw [Bool.eq_false_iff]; intro e; rw [beq_iff_eq, ByteArray.toList_eq] at e; exact htg (bytes_ext e)
     obtain rfl : CH = (setS x_et tag f, xb, k + 1) := by
      rw [HV.out, if_neg (by simp; intro e; exact htg e)]
     clear htg
     go_wp2_with fail
     clear v0 v1 v2 v3
     replace hV := hV.drew
     refine wp_region_held_drew (S := (fun w' => w'.cell? ⟨w.heap.size, 2, none⟩ = some (.slice fA fn fc) ∧ w'.cell? ⟨bv, 2, none⟩ = some (.string tag) ∧ w'.cell? ⟨bv, 3, none⟩ = some (.slice dA dn dc))) (by kernel_rfl) ?_ (fun hHeld => ?_)
     ·(try dsimp only); exact ⟨(HS.out _ (hE.trans hV)).1, (HSv.out _ hV).2.2.1, (HSv.out _ hV).2.2.2⟩
     refine zH (v := ?_) 0 (some 34) rfl ?_ ?_; rotate_left
     ·(intro w hSw; (try dsimp only at hSw); go_simp; (try with_reducible rfl))
     try simp only [zP]
     refine zH (v := ?_) 1 (some 35) rfl ?_ ?_; rotate_left
     ·(intro w hSw; (try dsimp only at hSw); go_simp; (try with_reducible rfl))
     try simp only [zP]
     refine zH (v := ?_) 2 (some 36) rfl ?_ ?_; rotate_left
     ·(intro w hSw; (try dsimp only at hSw); go_simp; (try with_reducible rfl))
     try simp only [zP]
     refine zH (v := ?_) 3 (some 37) rfl ?_ ?_; rotate_left
     ·(intro w hSw; (try dsimp only at hSw); go_simp; (try with_reducible rfl))
     try simp only [zP]
     refine zH (v := ?_) 5 (some 39) rfl ?_ ?_; rotate_left
     ·(intro w hSw; (try dsimp only at hSw); go_simp; (try with_reducible rfl))
     try simp only [zP]
     refine zH (v := ?_) 6 (some 40) rfl ?_ ?_; rotate_left
     ·(intro w hSw; (try dsimp only at hSw); go_simp; (try with_reducible rfl))
     try simp only [zP]
     refine zH (v := ?_) 7 (some 41) rfl ?_ ?_; rotate_left
     ·(intro w hSw; (try dsimp only at hSw); go_simp; (try with_reducible rfl))
     try simp only [zP]
     refine zH (v := ?_) 8 (some 42) rfl ?_ ?_; rotate_left
     ·(intro w hSw; (try dsimp only at hSw); go_simp; (try with_reducible rfl))
     try simp only [zP]
     refine wpAnyH_ready (rs := [4]) (by kernel_rfl) (by simp) ?_
     refine AllReadyH.cons (o := ⟨some 38, _, _, _, _, _⟩) rfl (fun K hK => ?_) AllReadyH.nil
     go_simp
     refine (HSt.out _ tag (HW.out.trans (hE.trans hV))).mono ?_; rintro e w6 ⟨A6, n6, c6, rfl, -, hle6, hb6, hown6⟩; have hown6 := zi hown6; replace hV := hV.trans hb6; clear hb6
     try go_wp2_with fail
     refine hK.out _ _ ?_ (fun hHeld => ?_)
     ·(try dsimp only); exact ⟨(HS.out _ (hE.trans hV)).1, (HSv.out _ hV).2.2.1, (HSv.out _ hV).2.2.2⟩
     clear hK K
     try simp only [zP]
     refine zH (v := ?_) 9 (some 4) rfl ?_ ?_; rotate_left
     ·(intro w hSw; (try dsimp only at hSw); go_simp; (try with_reducible rfl))
     try simp only [zP]
     refine zH (v := ?_) 10 (some 5) rfl ?_ ?_; rotate_left
     ·(intro w hSw; (try dsimp only at hSw); go_simp; (try with_reducible rfl))
     try simp only [zP]
     refine zH (v := ?_) 11 (some 6) rfl ?_ ?_; rotate_left
     ·(intro w hSw; (try dsimp only at hSw); go_simp; (try with_reducible rfl))
     try simp only [zP]
     refine wpAnyH_done (by kernel_rfl) ?_ _
     go_wp2_with fail
     refine bodyPost_ret (v := .tuple #[.slice A6 n6 c6, .slice dA dn dc, .int .i64 ((k + 1 : Nat) : Int)]) (by simp [results, Tryz.results106, go_sem]) rfl ?_
     have hEf := HW.out.trans (hE.trans hV)
     refine ⟨⟨A6, n6, c6⟩, ⟨dA, dn, dc⟩, rfl, ⟨Rd.of_own (hown6.out), fun h1 a ha hb => ?_, hle6⟩, HVk.out.bd.ext hEf, hEf⟩
     have h9 := (hown6.out.lt a.block (by simp only at ha; subst ha; rfl)).1
     have h8 := HQ.out _ hb
     have h7 := hEw.drew.size
     omega
  ·obtain rfl : k = vn := by omega
   obtain rfl : CH = (f, body, 0) := by rw [← hch]; exact Hendb.out _ (by have := Hvl.out; omega)
   go_wp2_with fail
   have hE := hbr.drew
   refine wp_region_held_drew (S := (fun w' => w'.cell? ⟨w.heap.size, 2, none⟩ = some (.slice fA fn fc) ∧ w'.cell? ⟨w.heap.size, 3, none⟩ = some (.slice bA bn bc))) (by kernel_rfl) ?_ (fun hHeld => ?_)
   ·(try dsimp only); exact ⟨(HS.out _ hE).1, (HS.out _ hE).2.1⟩
   refine zH (v := ?_) 0 (some 44) rfl ?_ ?_; rotate_left
   ·(intro w hSw; (try dsimp only at hSw); go_simp; (try with_reducible rfl))
   try simp only [zP]
   refine zH (v := ?_) 1 (some 45) rfl ?_ ?_; rotate_left
   ·(intro w hSw; (try dsimp only at hSw); go_simp; (try with_reducible rfl))
   try simp only [zP]
   refine zH (v := ?_) 2 (some 46) rfl ?_ ?_; rotate_left
   ·(intro w hSw; (try dsimp only at hSw); go_simp; (try with_reducible rfl))
   try simp only [zP]
   refine zH (v := ?_) 3 (some 47) rfl ?_ ?_; rotate_left
   ·(intro w hSw; (try dsimp only at hSw); go_simp; (try with_reducible rfl))
   try simp only [zP]
   refine zH (v := ?_) 4 (some 4) rfl ?_ ?_; rotate_left
   ·(intro w hSw; (try dsimp only at hSw); go_simp; (try with_reducible rfl))
   try simp only [zP]
   refine zH (v := ?_) 5 (some 5) rfl ?_ ?_; rotate_left
   ·(intro w hSw; (try dsimp only at hSw); go_simp; (try with_reducible rfl))
   try simp only [zP]
   refine zH (v := ?_) 6 (some 6) rfl ?_ ?_; rotate_left
   ·(intro w hSw; (try dsimp only at hSw); go_simp; (try with_reducible rfl))
   try simp only [zP]
   refine wpAnyH_done (by kernel_rfl) ?_ _
   go_wp2_with fail
   refine bodyPost_ret (v := .tuple #[.slice fA fn fc, .slice bA bn bc, .int .i64 0]) (by simp [results, Tryz.results106, go_sem]) rfl ?_
   have hEf := HW.out.trans hE
   exact ⟨⟨fA, fn, fc⟩, ⟨bA, bn, bc⟩, rfl, HAt.out.fs.ext hEf, HAt.out.bd.ext hEf, hEf⟩
end Go.Proofs.YtmckbcbdnckngaaGreatDoor

namespace Go.Proofs.YtmckbcbdnckngaaGreatDoor
open Go.RowKit Go.Extern.Stop Go.Stop Go.Extern

theorem isTypeOf (v : Value) (w : World) : (Extern.ReflectliteType.typeOf #[.iface 63 v]).run Tryz.prog w = .ok (.iface 254 (.agg #[.pointer (some ⟨9, 63, none⟩)])) w := by kernel_rfl
theorem isComparable (w : World) : (Extern.ReflectliteType.method (fun t => do Rtype.noPackHeld "Comparable" t; (fun a => Value.bool a.comparable) <$> typeInfo t) #[.agg #[.pointer (some ⟨9, 63, none⟩)]]).run Tryz.prog w = .ok (.bool true) w := by kernel_rfl
theorem isMethodComparable (v : Value) (w : World) : (Go.method 398 254 v "Comparable").run Tryz.prog w = .ok (205, v) w := by kernel_rfl
theorem isComp : (Tryz.prog.info? 63).map (·.comparable) = some true := by kernel_rfl
theorem noIsE (v : Value) (xT : TypeId) (w : World) : (Instr.typeAssert (.iface 63 v) xT 256 true).run Tryz.prog w = .ok (.tuple #[.nilIface, .bool false]) w := run_typeAssert_lacksB Tryz.underlying256 (by kernel_rfl) (by kernel_rfl) v xT w
theorem noUnwrapE (v : Value) (xT : TypeId) (w : World) : (Instr.typeAssert (.iface 63 v) xT 259 true).run Tryz.prog w = .ok (.tuple #[.nilIface, .bool false]) w := run_typeAssert_lacksB Tryz.underlying259 (by kernel_rfl) (by kernel_rfl) v xT w
theorem noUnwrapsE (v : Value) (xT : TypeId) (w : World) : (Instr.typeAssert (.iface 63 v) xT 261 true).run Tryz.prog w = .ok (.tuple #[.nilIface, .bool false]) w := run_typeAssert_lacksB Tryz.underlying261 (by kernel_rfl) (by kernel_rfl) v xT w
theorem equalIn_errno (d : Nat) (a b : Int) (w : World) : (Op.equalIn (d + 2) 29 (.iface 63 (.int .i64 a)) (.iface 63 (.int .i64 b))).run Tryz.prog w = .ok (a == b) w := by
 obtain ⟨i, hi, hcmp⟩ := Option.map_eq_some_iff.1 isComp
 simp [Op.equalIn, run_underlying Tryz.underlying29, run_underlying Tryz.underlying63, typeInfo, hi, hcmp]
theorem eql_errno (a b : Int) (w : World) : (binOp .eql 29 (.iface 63 (.int .i64 a)) (.iface 63 (.int .i64 b))).run Tryz.prog w = .ok (.bool (a == b)) w := by
 simp only [binOp]
 simp [Op.equal, Op.maxDepth, equalIn_errno 9998 a b w]
theorem errs_Is (a b : Int) (w : World) :
  Calls Tryz.prog 139 #[.iface 63 (.int .i64 a), .iface 63 (.int .i64 b)] w fun e w' => e = .returned (.bool (a == b)) ∧ w' = w := by
 have h8 := @run_callFunc_extern Tryz.prog 165 _ Extern.ReflectliteType.typeOf Tryz.func165 (by kernel_rfl) (by kernel_rfl) (by kernel_rfl) (by kernel_rfl)
 have h32 := @run_callFunc_extern Tryz.prog 205 _ (Extern.ReflectliteType.method fun t => do Rtype.noPackHeld "Comparable" t; pure (.bool (← typeInfo t).comparable)) Tryz.func205 (by kernel_rfl) (by kernel_rfl) (by kernel_rfl) (by kernel_rfl)
 have tT := isTypeOf
 have cT := isComparable
 have mR := isMethodComparable
 have nE := noIsE
 have uE := noUnwrapE
 have vE := noUnwrapsE
 have heq := fun w => eql_errno a b w
 cases hq : (a == b) with
 | true =>
  rw [hq] at heq
  clear hq
  go_enter Tryz.func139, Tryz.ntmps139
  go_wp2
  refine wp_loop_rounds 1 ?_
  rw [rounds_succ]
  go_wp2
  go_ret
  exact ⟨rfl, rfl⟩
 | false =>
  rw [hq] at heq
  clear hq
  go_enter Tryz.func139, Tryz.ntmps139
  go_wp2
  refine wp_loop_rounds 1 ?_
  rw [rounds_succ]
  go_wp2
  go_ret
  exact ⟨rfl, rfl⟩
theorem errs_IsNil (b : Int) (w : World) :
  Calls Tryz.prog 139 #[.nilIface, .iface 63 (.int .i64 b)] w fun e w' => e = .returned (.bool false) ∧ w' = w := by
 have hn := run_eql_iface_nil_left (P := Tryz.prog) w 63 (.int .i64 b) Tryz.underlying29
 go_enter Tryz.func139, Tryz.ntmps139
 go_wp2
 go_ret
 exact ⟨rfl, rfl⟩
theorem errs_IsN (n k : Nat) (hk : 0 < k) (w : World) :
  Calls Tryz.prog 139 #[errV n, .iface 63 (.int .i64 (k : Nat))] w fun e w' => e = .returned (.bool (decide (n = k))) ∧ w' = w := by
 rcases errV_eq0 n with ⟨h0, h1⟩ | ⟨h0, h1⟩
 ·rw [h1]
  refine (errs_IsNil k w).mono ?_
  rintro e w' ⟨rfl, rfl⟩
  exact ⟨by rw [decide_eq_false (by omega)], rfl⟩
 ·rw [h1]
  refine (errs_Is n k w).mono ?_
  rintro e w' ⟨rfl, rfl⟩
  refine ⟨?_, rfl⟩
  congr 2
  rw [Bool.eq_iff_iff, beq_iff_eq, decide_eq_true_eq]
  omega
end Go.Proofs.YtmckbcbdnckngaaGreatDoor

namespace Go.Proofs.YtmckbcbdnckngaaGreatDoor
open Go.RowKit

def ansC (t : Int) (a : Ans) (fs bd : Sl) : Array Value := #[.int .i64 t, .int .i64 a.status, .int .i64 a.version, .int .i64 a.variant, .string a.addr, .int .i64 a.lo, .int .i64 a.hi, fs.v, bd.v]
structure AnsAt (w : World) (pa : Nat) (t : Int) (a : Ans) (fs bd : Sl) : Prop where
 blk : Blk w pa 111 (ansC t a fs bd)
 fs : RS (fun i => i = pa) w 2 fs (fldCells a.fs)
 bd : RS (fun i => i = pa) w 1 bd (bytC a.body)
theorem AnsAt.ext {w w' : World} {pa : Nat} {t : Int} {a : Ans} {fs bd : Sl} (h : AnsAt w pa t a fs bd) (hb : Ext w w') : AnsAt w' pa t a fs bd := ⟨h.blk.ext hb, h.fs.ext hb, h.bd.ext hb⟩
theorem AnsAt.bsz {w : World} {pa : Nat} {t : Int} {a : Ans} {fs bd : Sl} (h : AnsAt w pa t a fs bd) : a.body.size = bd.n := by have := h.bd.len1; rw [bytC_len] at this; exact this
section
variable {a : Ans} {r : Rq} {s : St}
theorem part_get (h : (r.method.toList == [71, 69, 84]) = false) : partS a r s = a := by
 unfold partS
 split
 ·rw [if_pos (by simp [h])]
 ·rfl
theorem part_many (h : (allS r.fs x_rg).length ≠ 1) : partS a r s = a := by
 unfold partS
 split
 ·rename_i v hv; rw [hv] at h; simp at h
 ·rfl
theorem part_use (h : urF r.method r.fs s = false) : partS a r s = a := by
 unfold partS
 split
 ·rw [if_pos (by simp [h])]
 ·rfl
variable {v : ByteArray}
theorem part_416 (h1 : (r.method.toList == [71, 69, 84]) = true) (h2 : allS r.fs x_rg = [v]) (h3 : urF r.method r.fs s = true) (h4 : (rgP v a.body.size).1 = 1) :
  partS a r s = { a with status := 416, fs := [(x_cr, ⟨#[98, 121, 116, 101, 115, 32, 42, 47]⟩ ++ decV a.body.size)], body := ⟨#[]⟩ } := by
 unfold partS
 rw [h2]
 simp only
 rw [if_neg (by simp [h1, h3]), if_pos (by rw [h4]; rfl)]
theorem part_none (h1 : (r.method.toList == [71, 69, 84]) = true) (h2 : allS r.fs x_rg = [v]) (h3 : urF r.method r.fs s = true) (h4 : (rgP v a.body.size).1 ≠ 1) (h5 : (rgP v a.body.size).1 ≠ 0 ∨ (rgP v a.body.size).2.length ≠ 1) :
  partS a r s = a := by
 unfold partS
 rw [h2]
 simp only
 rw [if_neg (by simp [h1, h3]), if_neg (by simpa using h4)]
 split
 ·rename_i q hq
  rw [hq] at h5
  rcases h5 with h5 | h5 <;> simp at h5
 ·rfl
theorem part_bad {q : Int × Int} (h1 : (r.method.toList == [71, 69, 84]) = true) (h2 : allS r.fs x_rg = [v]) (h3 : urF r.method r.fs s = true) (h4 : rgP v a.body.size = (0, [q])) (h5 : crP q a.body.size = none) :
  partS a r s = a := by
 unfold partS
 rw [h2]
 simp only
 rw [if_neg (by simp [h1, h3]), h4, if_neg (by simp)]
 simp only
 rw [h5]
theorem part_206 {q : Int × Int} {text : ByteArray} (h1 : (r.method.toList == [71, 69, 84]) = true) (h2 : allS r.fs x_rg = [v]) (h3 : urF r.method r.fs s = true) (h4 : rgP v a.body.size = (0, [q])) (h5 : crP q a.body.size = some text) :
  partS a r s = { a with status := 206, fs := setS x_cr text a.fs, body := a.body.extract q.1.toNat q.2.toNat, lo := q.1, hi := q.2, ranged := true } := by
 unfold partS
 rw [h2]
 simp only
 rw [if_neg (by simp [h1, h3]), h4, if_neg (by simp)]
 simp only
 rw [h5]
end
theorem crP_in {q : Int × Int} {n : Int} {text : ByteArray} (h : crP q n = some text) : 0 ≤ q.1 ∧ q.1 < q.2 ∧ q.2 ≤ n := by
 unfold crP at h
 split at h
 ·cases h
 ·rename_i hc
  unfold rgProper at hc
  simp at hc
  omega
theorem AnsAt.put3 {W : World} {pa : Nat} {t : Int} {a : Ans} {fs bd fs' bd' : Sl} {F : List Fd} {B : ByteArray} (h : AnsAt W pa t a fs bd) (hf : RS (fun i => i = pa) W 2 fs' (fldCells F)) (hb : RS (fun i => i = pa) W 1 bd' (bytC B)) (st : Int) :
  AnsAt (((W.setCell ⟨pa, 1, none⟩ (.int .i64 st)).setCell ⟨pa, 7, none⟩ fs'.v).setCell ⟨pa, 8, none⟩ bd'.v) pa t { a with status := st, fs := F, body := B } fs' bd' ∧
  Keeps (fun i => i = pa) W (((W.setCell ⟨pa, 1, none⟩ (.int .i64 st)).setCell ⟨pa, 7, none⟩ fs'.v).setCell ⟨pa, 8, none⟩ bd'.v) := by
 have hK := (((Keeps.refl (fun i => i = pa) W).set_ (b := pa) rfl 1 (.int .i64 st)).set_ (b := pa) rfl 7 fs'.v).set_ (b := pa) rfl 8 bd'.v
 exact ⟨⟨((h.blk.set_ 1 _).set_ 7 _).set_ 8 _, hf.keep hK (fun i hi => .inl hi), hb.keep hK (fun i hi => .inl hi)⟩, hK⟩
theorem AnsAt.put2 {W : World} {pa : Nat} {t : Int} {a : Ans} {fs bd fs' bd' : Sl} {F : List Fd} {B : ByteArray} (h : AnsAt W pa t a fs bd) (hf : RS (fun i => i = pa) W 2 fs' (fldCells F)) (hb : RS (fun i => i = pa) W 1 bd' (bytC B)) :
  AnsAt ((W.setCell ⟨pa, 7, none⟩ fs'.v).setCell ⟨pa, 8, none⟩ bd'.v) pa t { a with fs := F, body := B } fs' bd' ∧
  Keeps (fun i => i = pa) W ((W.setCell ⟨pa, 7, none⟩ fs'.v).setCell ⟨pa, 8, none⟩ bd'.v) := by
 have hK := ((Keeps.refl (fun i => i = pa) W).set_ (b := pa) rfl 7 fs'.v).set_ (b := pa) rfl 8 bd'.v
 exact ⟨⟨(h.blk.set_ 7 _).set_ 8 _, hf.keep hK (fun i hi => .inl hi), hb.keep hK (fun i hi => .inl hi)⟩, hK⟩
theorem AnsAt.putR {W : World} {pa : Nat} {t : Int} {a : Ans} {fs bd : Sl} (h : AnsAt W pa t a fs bd) (st lo hi : Int) :
  AnsAt (((W.setCell ⟨pa, 1, none⟩ (.int .i64 st)).setCell ⟨pa, 5, none⟩ (.int .i64 lo)).setCell ⟨pa, 6, none⟩ (.int .i64 hi)) pa t { a with status := st, lo := lo, hi := hi, ranged := true } fs bd ∧
  Keeps (fun i => i = pa) W (((W.setCell ⟨pa, 1, none⟩ (.int .i64 st)).setCell ⟨pa, 5, none⟩ (.int .i64 lo)).setCell ⟨pa, 6, none⟩ (.int .i64 hi)) := by
 have hK := (((Keeps.refl (fun i => i = pa) W).set_ (b := pa) rfl 1 (.int .i64 st)).set_ (b := pa) rfl 5 (.int .i64 lo)).set_ (b := pa) rfl 6 (.int .i64 hi)
 exact ⟨⟨((h.blk.set_ 1 _).set_ 5 _).set_ 6 _, h.fs.keep hK (fun i hi => .inl hi), h.bd.keep hK (fun i hi => .inl hi)⟩, hK⟩
theorem bytC_cut (b : ByteArray) (i j : Nat) (h1 : i ≤ j) (h2 : j ≤ b.size) : ((bytC b).drop i).take (j - i) = bytC (b.extract i j) := by
 unfold bytC
 rw [← List.map_drop, ← List.map_take]
 congr 1
 rw [← ByteArray.toList_eq, ← ByteArray.toList_eq, Lib.extract_toList, ByteArray.toList_eq]
theorem or_part (pa : Nat) (t : Int) (a : Ans) (fs bd : Sl) (r : Rq) (rA : Option Addr) (rn rc : Nat) (st : St) (w : World) (h : AnsAt w pa t a fs bd) (hr : RdF w rA rn r.fs)
  (hrn : rn ≤ 1048576) (hrT : sumF r.fs + 2 * rn ≤ 1048576) (hab : a.body.size ≤ 1048576) (hal : a.fs.length ≤ 1073741824) (hafz : Bsz 4611686018427387904 a.fs) (hg : Gl w) (hh : GlH w) (hp : GlP w) :
  Calls Tryz.prog 110 #[.pointer (some ⟨pa, 0, none⟩), .agg #[.string r.method, .string r.target, .slice rA rn rc], .agg (stArr st)] w fun e w' => ∃ b : Bool, e = .returned (.bool b) ∧
   (∃ fs' bd', AnsAt w' pa t (partS a r st) fs' bd') ∧ Keeps (fun i => i = pa) w w' := by
 have hbz := bszF r.fs
 have hbz2 : Bsz 1048576 r.fs := fun f hf => ⟨by have := (hbz f hf).1; omega, by have := (hbz f hf).2; omega⟩
 have HAll := zi (fun w' (hx : Ext w w') => field_All rA rn rc r.fs x_rg w' (hr.ext hx) (by omega) (by decide) (fun f hf => by have := (hbz f hf).1; omega))
 have HUse := zi (fun w' (hx : Ext w w') => val_UseRange r.method rA rn rc r.fs st w' (hr.ext hx) (by omega) hbz2 (by omega) hrT (hh.ext hx))
 have Hlen := zi (fun v (hv : v ∈ allS r.fs x_rg) => show v.size ≤ 1048576 from by
  unfold allS at hv
  obtain ⟨f, hf, rfl⟩ := List.mem_map.1 hv
  exact (hbz2 f (List.mem_filter.1 hf).1).2)
 have HPs := zi (fun w' v (hx : Ext w w') (hv : v.size ≤ 1048576) => rg_Parse v a.body.size w' hv (by omega) (by omega) (hg.ext hx))
 have HCr := zi (fun w' lo hi (hx : Ext w w') => rg_ContentRange lo hi a.body.size w' (by omega) (hp.ext hx))
 have HIt := zi (fun w' (hx : Ext w w') => show Calls Tryz.prog 48 #[.int .i64 (a.body.size : Nat)] w' fun e w'' => e = .returned (.string (decV a.body.size)) ∧ Ext w' w'' from std_Itoa a.body.size (by omega) (by omega) w' (hp.ext hx))
 have Hdz := zi (decV_size (n := (a.body.size : Int)) (by omega))
 have HSt := zi (fun w' (tx : ByteArray) => (fun (hk : RdF w' fs.A fs.n a.fs) => field_Set fs.A fs.n fs.c a.fs x_cr tx w' hk (by have := h.fs.rd.lenF; omega) (by decide) hafz))
 have Hget := zi (@part_get a r st); have Hmany := zi (@part_many a r st); have Huse := zi (@part_use a r st); have H416 := zi (fun v => @part_416 a r st v); have Hnone := zi (fun v => @part_none a r st v); have Hbad := zi (fun v q => @part_bad a r st v q); have H206 := zi (fun v q text => @part_206 a r st v q text)
 have HA := zi h
 have hbn := h.bsz
 have hplt := h.blk.lt
 rw [hbn] at HPs HCr HIt Hdz H416 Hnone Hbad H206
 obtain ⟨PA, hPA⟩ : ∃ PA, partS a r st = PA := ⟨_, rfl⟩
 rw [hPA] at Hget Hmany Huse H416 Hnone Hbad H206 ⊢
 generalize urF r.method r.fs st = ur at *
 obtain ⟨me, ta, rfs⟩ := r
 obtain ⟨ex, ht, hm, tw, tt, md⟩ := st
 simp only [stArr] at *
 clear hr hbz hbz2 hafz hg hh hp h hPA
 obtain ⟨status, version, variant, addr, afs, body, lo0, hi0, rg0⟩ := a
 obtain ⟨fA, fn, fc⟩ := fs
 obtain ⟨bA, bn, bc⟩ := bd
 simp only [Sl.v] at *
 have HX := zi ((Blk.new w 42 #[.string me, .string ta, .slice rA rn rc]).alloc (.cells #[.bool ex, .bool ht, .bool hm, .bool tw, .string tt, .int .i64 md] 187))
 have HY := zi (Blk.new (w.alloc (.cells #[.string me, .string ta, .slice rA rn rc] 42)) 187 #[.bool ex, .bool ht, .bool hm, .bool tw, .string tt, .int .i64 md])
 have HW := zi (((Ext.refl w).alloc (.cells #[.string me, .string ta, .slice rA rn rc] 42)).alloc (.cells #[.bool ex, .bool ht, .bool hm, .bool tw, .string tt, .int .i64 md] 187))
 have hsz1 : (w.alloc (.cells #[.string me, .string ta, .slice rA rn rc] 42)).heap.size = w.heap.size + 1 := by simp
 rw [hsz1] at HY
 have HS := zi (fun w' (hx : Ext ((w.alloc (.cells #[.string me, .string ta, .slice rA rn rc] 42)).alloc (.cells #[.bool ex, .bool ht, .bool hm, .bool tw, .string tt, .int .i64 md] 187)) w') => (⟨(HX.out.ext hx).cell 0, (HX.out.ext hx).cell 2, (HY.out.ext hx).cell 0, (HY.out.ext hx).cell 1, (HY.out.ext hx).cell 2, (HY.out.ext hx).cell 3, (HY.out.ext hx).cell 4, (HY.out.ext hx).cell 5⟩ : w'.cell? ⟨w.heap.size, 0, none⟩ = some (.string me) ∧ w'.cell? ⟨w.heap.size, 2, none⟩ = some (.slice rA rn rc) ∧ w'.cell? ⟨w.heap.size + 1, 0, none⟩ = some (.bool ex) ∧ w'.cell? ⟨w.heap.size + 1, 1, none⟩ = some (.bool ht) ∧ w'.cell? ⟨w.heap.size + 1, 2, none⟩ = some (.bool hm) ∧ w'.cell? ⟨w.heap.size + 1, 3, none⟩ = some (.bool tw) ∧ w'.cell? ⟨w.heap.size + 1, 4, none⟩ = some (.string tt) ∧ w'.cell? ⟨w.heap.size + 1, 5, none⟩ = some (.int .i64 md)))
 obtain ⟨x0, x2, -⟩ := HS.out _ (Ext.refl _)
 go_enter Tryz.func110, Tryz.ntmps110
 go_wp2_with fail
 (try rw [hsz1])
 refine (HAll.out _ HW.out).mono ?_; rintro e w1 ⟨lA, ln, lc, rfl, hls, hlc, hb1⟩
 generalize ((w.alloc (.cells #[.string me, .string ta, .slice rA rn rc] 42)).alloc (.cells #[.bool ex, .bool ht, .bool hm, .bool tw, .string tt, .int .i64 md] 187)) = Wb at *
 clear x0 x2 hsz1
 have hE := hb1
 have hll := hls.lenS
 obtain ⟨x0, x2, s0, s1, s2, s3, s4, s5⟩ := HS.out _ hE
 have Hls := zi hls; have Hll := zi hll
 clear hls hll
 cases hq : (me.toList == [71, 69, 84])
 ·have HP := zi (Hget.out hq)
  go_wp2_with fail
  go_ret
  have hF := HW.out.trans hE
  exact ⟨false, rfl, ⟨_, _, by rw [HP.out]; exact HA.out.ext hF⟩, Keeps.of hF⟩
 by_cases hl1 : ln = 1
 rotate_left
 ·have HP := zi (Hmany.out (by rw [Hll.out]; exact hl1))
  have hq1 : ((ln : Int) == 1) = false := by rw [beq_eq_false_iff_ne]; omega
  go_wp2_with fail
  go_ret
  have hF := HW.out.trans hE
  exact ⟨false, rfl, ⟨_, _, by rw [HP.out]; exact HA.out.ext hF⟩, Keeps.of hF⟩
 subst hl1
 obtain ⟨v, hv⟩ : ∃ v, allS rfs x_rg = [v] := by
  have := Hll.out
  match hm : allS rfs x_rg, this with
  | [v], _ => exact ⟨v, rfl⟩
 have Hv := zi hv
 go_wp2_with fail
 refine (HUse.out _ (HW.out.trans hE)).mono ?_; rintro e w2 ⟨rfl, hb2⟩
 clear x0 x2 s0 s1 s2 s3 s4 s5
 replace hE := hE.trans hb2
 cases ur with
 | false =>
  have HP := zi (Huse.out (by trivial))
  go_wp2_with fail
  go_ret
  have hF := HW.out.trans hE
  exact ⟨false, rfl, ⟨_, _, by rw [HP.out]; exact HA.out.ext hF⟩, Keeps.of hF⟩
 | true =>
 have H416 := zi (H416.out v hq Hv.out (by trivial)); have Hnone := zi (Hnone.out v hq Hv.out (by trivial)); have Hbad := zi (fun q => Hbad.out v q hq Hv.out (by trivial)); have H206 := zi (fun q text => H206.out v q text hq Hv.out (by trivial))
 have hvz := Hlen.out v (by rw [Hv.out]; simp)
 rw [Hv.out] at Hls
 obtain ⟨lb, lo, hlA, d0⟩ := Hls.out.atS (k := 0) (by simp)
 subst hlA
 rw [Nat.add_zero] at d0
 have HD := zi (fun w' (hx : Ext w1 w') => (show w'.cell? ⟨lb, lo, none⟩ = some (.string v) from hx.cell d0))
 have HB8 := zi (fun w' (hx : Ext w w') => (show w'.cell? ⟨pa, 8, none⟩ = some (.slice bA bn bc) from (HA.out.blk.ext hx).cell 8))
 have hL := hb2
 clear d0 hv Hget Hmany Huse
 go_wp2_with fail
 replace hE := hE.drew
 replace hL := hL.drew
 refine wp_region_held_drew (S := (fun w' => w'.cell? ⟨lb, lo, none⟩ = some (.string v) ∧ w'.cell? ⟨pa, 8, none⟩ = some (.slice bA bn bc))) (by kernel_rfl) ?_ (fun hHeld => ?_)
 ·(try dsimp only); exact ⟨HD.out _ hL, HB8.out _ (HW.out.trans hE)⟩
 refine zH (v := ?_) 0 (some 32) rfl ?_ ?_; rotate_left
 ·(intro w hSw; (try dsimp only at hSw); go_simp; (try with_reducible rfl))
 try simp only [zP]
 refine zH (v := ?_) 1 (some 33) rfl ?_ ?_; rotate_left
 ·(intro w hSw; (try dsimp only at hSw); go_simp; (try with_reducible rfl))
 try simp only [zP]
 refine zH (v := ?_) 2 (some 34) rfl ?_ ?_; rotate_left
 ·(intro w hSw; (try dsimp only at hSw); go_simp; (try with_reducible rfl))
 try simp only [zP]
 refine zH (v := ?_) 3 (some 35) rfl ?_ ?_; rotate_left
 ·(intro w hSw; (try dsimp only at hSw); go_simp; (try with_reducible rfl))
 try simp only [zP]
 refine zH (v := ?_) 4 (some 36) rfl ?_ ?_; rotate_left
 ·(intro w hSw; (try dsimp only at hSw); go_simp; (try with_reducible rfl))
 try simp only [zP]
 refine zH (v := ?_) 5 (some 37) rfl ?_ ?_; rotate_left
 ·(intro w hSw; (try dsimp only at hSw); go_simp; (try with_reducible rfl))
 try simp only [zP]
 refine zH (v := ?_) 6 (some 38) rfl ?_ ?_; rotate_left
 ·(intro w hSw; (try dsimp only at hSw); go_simp; (try with_reducible rfl))
 try simp only [zP]
 refine zH (v := ?_) 7 (some 39) rfl ?_ ?_; rotate_left
 ·(intro w hSw; (try dsimp only at hSw); go_simp; (try with_reducible rfl))
 try simp only [zP]
 refine wpAnyH_ready (rs := [8]) (by kernel_rfl) (by simp) ?_
 refine AllReadyH.cons (o := ⟨some 40, _, _, _, _, _⟩) rfl (fun K hK => ?_) AllReadyH.nil
 go_simp
 have HE4c := zi hE; refine (HPs.out _ v (HW.out.trans hE) hvz).mono ?_; rintro e w4 ⟨⟨qA, qn, qc⟩, rfl, hr, hb4⟩; replace hE := hE.trans hb4; replace hL := hL.trans hb4; clear hb4; (simp only [Sl.v])
 try go_wp2_with fail
 refine hK.out _ _ ?_ (fun hHeld => ?_)
 ·(try dsimp only); exact ⟨HD.out _ hL, HB8.out _ (HW.out.trans hE)⟩
 clear hK K
 try simp only [zP]
 refine zH (v := ?_) 9 (some 31) rfl ?_ ?_; rotate_left
 ·(intro w hSw; (try dsimp only at hSw); go_simp; (try with_reducible rfl))
 try simp only [zP]
 refine zH (v := ?_) 10 (some 41) rfl ?_ ?_; rotate_left
 ·(intro w hSw; (try dsimp only at hSw); go_simp; (try with_reducible rfl))
 try simp only [zP]
 refine zH (v := ?_) 11 (some 42) rfl ?_ ?_; rotate_left
 ·(intro w hSw; (try dsimp only at hSw); go_simp; (try with_reducible rfl))
 try simp only [zP]
 refine zH (v := ?_) 12 (some 8) rfl ?_ ?_; rotate_left
 ·(intro w hSw; (try dsimp only at hSw); go_simp; (try with_reducible rfl))
 try simp only [zP]
 refine zH (v := ?_) 13 (some 9) rfl ?_ ?_; rotate_left
 ·(intro w hSw; (try dsimp only at hSw); go_simp; (try with_reducible rfl))
 try simp only [zP]
 refine wpAnyH_done (by kernel_rfl) ?_ _
 have Hr := zi hr; have HE4 := zi hE
 clear hr
 generalize rgP v bn = RGv at *
 obtain ⟨en, el⟩ := RGv
 simp only at H416 Hnone Hbad H206
 have HIs := zi (fun w' => errs_IsN en 1 (by decide) w')
 go_wp2_with fail
 refine (HIs.out _).mono ?_; rintro e w5 ⟨rfl, rfl⟩
 have hF := HW.out.trans hE
 have hplt2 : pa < w5.heap.size := Nat.lt_of_lt_of_le hplt hF.size
 have p8 := HB8.out _ hF
 by_cases h1 : en = 1
 ·have HP := zi (H416.out h1)
  rw [decide_eq_true h1]
  have hdz := Hdz.out
  have q1 := sum_w (P := Tryz.prog) ⟨#[98, 121, 116, 101, 115, 32, 42, 47]⟩ (decV bn) (by rw [show (⟨#[98, 121, 116, 101, 115, 32, 42, 47]⟩ : ByteArray).size = 8 from rfl]; omega)
  go_wp2_with fail
  refine (HIt.out _ hF).mono ?_; rintro e w6 ⟨rfl, hb6⟩
  replace hF := hF.trans hb6
  have hplt3 : pa < w6.heap.size := Nat.lt_of_lt_of_le hplt2 hb6.size
  generalize decV bn = dv at *
  have HA6 := zi ((HA.out.ext hF).ext ((Ext.refl w6).alloc (.cells #[.string ⟨#[99, 111, 110, 116, 101, 110, 116, 45, 114, 97, 110, 103, 101]⟩, .string (⟨#[98, 121, 116, 101, 115, 32, 42, 47]⟩ ++ dv)] 51)))
  have RF := zi (show RS (fun i => i = pa) (w6.alloc (.cells #[.string ⟨#[99, 111, 110, 116, 101, 110, 116, 45, 114, 97, 110, 103, 101]⟩, .string (⟨#[98, 121, 116, 101, 115, 32, 42, 47]⟩ ++ dv)] 51)) 2 ⟨some ⟨w6.heap.size, 0, none⟩, 1, 1⟩ (fldCells [(x_cr, ⟨#[98, 121, 116, 101, 115, 32, 42, 47]⟩ ++ dv)]) from ⟨Rd.lit w6 #[.string ⟨#[99, 111, 110, 116, 101, 110, 116, 45, 114, 97, 110, 103, 101]⟩, .string (⟨#[98, 121, 116, 101, 115, 32, 42, 47]⟩ ++ dv)] 51 rfl 2 1 rfl, fun _ a ha hb => by simp only [Option.some.injEq] at ha; subst ha; simp only at hb; omega, Nat.le_refl _⟩)
  have HZ := HA6.out.put3 RF.out (show RS _ _ 1 sl0 (bytC ⟨#[]⟩) from RS.nil _ _ _) 416
  simp only [Sl.v, sl0] at HZ
  have hz9 : ∀ (i : Nat) (u : Value), pa < (w6.setCell ⟨pa, i, none⟩ u).heap.size := fun i u => by simpa [World.setCell] using hplt3
  have hz8 : ∀ (i j : Nat) (u v : Value), pa < ((w6.setCell ⟨pa, i, none⟩ u).setCell ⟨pa, j, none⟩ v).heap.size := fun i j u v => by simpa [World.setCell] using hplt3
  rw [World.setCell_alloc_past _ _ _ _ hplt3, World.setCell_alloc_past _ _ _ _ (hz9 _ _), World.setCell_alloc_past _ _ _ _ (hz8 _ _ _ _)] at HZ
  clear hz9 hz8
  have HZ := zi HZ
  have hF6 := zi (hF.alloc (.cells #[.string ⟨#[99, 111, 110, 116, 101, 110, 116, 45, 114, 97, 110, 103, 101]⟩, .string (⟨#[98, 121, 116, 101, 115, 32, 42, 47]⟩ ++ dv)] 51))
  have HA6b := HA.out.ext hF
  have k1 : w6.cell? ⟨pa, 1, none⟩ = some (.int .i64 status) := HA6b.blk.cell 1
  have k7 : w6.cell? ⟨pa, 7, none⟩ = some (.slice fA fn fc) := HA6b.blk.cell 7
  have k8 : w6.cell? ⟨pa, 8, none⟩ = some (.slice bA bn bc) := HA6b.blk.cell 8
  have f1 : w6.frozen? ⟨pa, 1, none⟩ = false := HA6b.blk.frozen 1
  have f7 : w6.frozen? ⟨pa, 7, none⟩ = false := HA6b.blk.frozen 7
  have f8 : w6.frozen? ⟨pa, 8, none⟩ = false := HA6b.blk.frozen 8
  clear HA6b
  clear p8
  go_wp2_with fail
  go_ret
  exact ⟨true, rfl, ⟨_, _, by rw [HP.out]; exact HZ.out.1⟩, (Keeps.of hF6.out).trans HZ.out.2⟩
 ·rw [decide_eq_false h1]
  have BADEND : ∀ w9, Ext w w9 → PA = ⟨status, version, variant, addr, afs, body, lo0, hi0, rg0⟩ → (∃ fs' bd', AnsAt w9 pa t PA fs' bd') ∧ Keeps (fun i => i = pa) w w9 := fun w9 h9 e9 => ⟨⟨_, _, by rw [e9]; exact HA.out.ext h9⟩, Keeps.of h9⟩
  have BE := zi BADEND
  clear BADEND
  rcases errV_eq0 en with ⟨h0, h2⟩ | ⟨h0, h2⟩
  rotate_left
  ·have HP := zi (Hnone.out h1 (.inl h0))
   rw [h2]
   go_wp2_with fail
   go_ret
   obtain ⟨z1, z2⟩ := BE.out _ hF HP.out
   exact ⟨false, rfl, z1, z2⟩
  ·rw [h2]
   subst h0
   have hel : el.length = qn := by have := Hr.out.rd.1; rw [spnC_len] at this; simp only at this; omega
   by_cases hq1 : qn = 1
   rotate_left
   ·have HP := zi (Hnone.out h1 (.inr (by rw [hel]; exact hq1)))
    have hq2 : ((qn : Int) == 1) = false := by rw [beq_eq_false_iff_ne]; omega
    go_wp2_with fail
    go_ret
    obtain ⟨z1, z2⟩ := BE.out _ hF HP.out
    exact ⟨false, rfl, z1, z2⟩
   ·subst hq1
    obtain ⟨q, rfl⟩ : ∃ q, el = [q] := by
     match el, hel with
     | [q], _ => exact ⟨q, rfl⟩
    obtain ⟨lo, hi⟩ := q
    have Hbad := zi (Hbad.out (lo, hi) (by trivial)); have H206 := zi (fun text => H206.out (lo, hi) text (by trivial))
    obtain ⟨qb, qo, hqA, hqc⟩ := Hr.out.rd.2 (by simp [spnC])
    simp only at hqA
    subst hqA
    have hqb : pa ≠ qb := by
     have h9 := Hr.out.out (by simp [spnC]) ⟨qb, qo, none⟩ rfl
     have h8 := (HW.out.trans HE4c.out).size
     simp only at h9
     omega
    have d0 : w5.cell? ⟨qb, qo, none⟩ = some (.int .i64 lo) := hqc 0 _ rfl
    have d1 : w5.cell? ⟨qb, qo + 1, none⟩ = some (.int .i64 hi) := hqc 1 _ rfl
    have HD := zi (fun w' (hx : Ext w5 w') => (⟨hx.cell d0, hx.cell d1⟩ : w'.cell? ⟨qb, qo, none⟩ = some (.int .i64 lo) ∧ w'.cell? ⟨qb, qo + 1, none⟩ = some (.int .i64 hi)))
    clear hqc hel
    have HF5 := zi hF
    go_wp2_with fail
    clear d0 d1 p8
    have hL := (Ext.refl w5).drew
    have HCr := zi (fun w' hx => HCr.out w' lo hi hx)
    cases hcr : crP (lo, hi) bn with
    | none =>
     have HP := zi (Hbad.out hcr)
     rw [hcr, show crV none = .tuple #[.string ⟨#[]⟩, .iface 63 (.int .i64 2)] from rfl] at HCr
     refine wp_region_held_drew (S := (fun w' => w'.cell? ⟨qb, qo, none⟩ = some (.int .i64 lo) ∧ w'.cell? ⟨qb, qo + 1, none⟩ = some (.int .i64 hi) ∧ w'.cell? ⟨pa, 8, none⟩ = some (.slice bA bn bc))) (by kernel_rfl) ?_ (fun hHeld => ?_)
     ·(try dsimp only); exact ⟨(HD.out _ hL).1, (HD.out _ hL).2, HB8.out _ (HF5.out.trans hL)⟩
     refine zH (v := ?_) 0 (some 73) rfl ?_ ?_; rotate_left
     ·(intro w hSw; (try dsimp only at hSw); go_simp; (try with_reducible rfl))
     try simp only [zP]
     refine zH (v := ?_) 1 (some 74) rfl ?_ ?_; rotate_left
     ·(intro w hSw; (try dsimp only at hSw); go_simp; (try with_reducible rfl))
     try simp only [zP]
     refine zH (v := ?_) 2 (some 75) rfl ?_ ?_; rotate_left
     ·(intro w hSw; (try dsimp only at hSw); go_simp; (try with_reducible rfl))
     try simp only [zP]
     refine zH (v := ?_) 3 (some 76) rfl ?_ ?_; rotate_left
     ·(intro w hSw; (try dsimp only at hSw); go_simp; (try with_reducible rfl))
     try simp only [zP]
     refine zH (v := ?_) 4 (some 77) rfl ?_ ?_; rotate_left
     ·(intro w hSw; (try dsimp only at hSw); go_simp; (try with_reducible rfl))
     try simp only [zP]
     refine zH (v := ?_) 5 (some 78) rfl ?_ ?_; rotate_left
     ·(intro w hSw; (try dsimp only at hSw); go_simp; (try with_reducible rfl))
     try simp only [zP]
     refine zH (v := ?_) 6 (some 79) rfl ?_ ?_; rotate_left
     ·(intro w hSw; (try dsimp only at hSw); go_simp; (try with_reducible rfl))
     try simp only [zP]
     refine zH (v := ?_) 7 (some 80) rfl ?_ ?_; rotate_left
     ·(intro w hSw; (try dsimp only at hSw); go_simp; (try with_reducible rfl))
     try simp only [zP]
     refine wpAnyH_ready (rs := [8]) (by kernel_rfl) (by simp) ?_
     refine AllReadyH.cons (o := ⟨some 81, _, _, _, _, _⟩) rfl (fun K hK => ?_) AllReadyH.nil
     go_simp
     refine (HCr.out _ (HF5.out.trans hL)).mono ?_; rintro e w7 ⟨rfl, hb7⟩; replace hL := hL.trans hb7; clear hb7
     try go_wp2_with fail
     refine hK.out _ _ ?_ (fun hHeld => ?_)
     ·(try dsimp only); exact ⟨(HD.out _ hL).1, (HD.out _ hL).2, HB8.out _ (HF5.out.trans hL)⟩
     clear hK K
     try simp only [zP]
     refine zH (v := ?_) 9 (some 72) rfl ?_ ?_; rotate_left
     ·(intro w hSw; (try dsimp only at hSw); go_simp; (try with_reducible rfl))
     try simp only [zP]
     refine zH (v := ?_) 10 (some 82) rfl ?_ ?_; rotate_left
     ·(intro w hSw; (try dsimp only at hSw); go_simp; (try with_reducible rfl))
     try simp only [zP]
     refine zH (v := ?_) 11 (some 83) rfl ?_ ?_; rotate_left
     ·(intro w hSw; (try dsimp only at hSw); go_simp; (try with_reducible rfl))
     try simp only [zP]
     refine zH (v := ?_) 12 (some 10) rfl ?_ ?_; rotate_left
     ·(intro w hSw; (try dsimp only at hSw); go_simp; (try with_reducible rfl))
     try simp only [zP]
     refine zH (v := ?_) 13 (some 9) rfl ?_ ?_; rotate_left
     ·(intro w hSw; (try dsimp only at hSw); go_simp; (try with_reducible rfl))
     try simp only [zP]
     refine wpAnyH_done (by kernel_rfl) ?_ _
     go_wp2_with fail
     go_ret
     obtain ⟨z1, z2⟩ := BE.out _ (HF5.out.trans hL) HP.out
     exact ⟨false, rfl, z1, z2⟩
    | some text =>
     have HP := zi (H206.out text hcr)
     have hin := crP_in hcr
     rw [hcr, show crV (some text) = .tuple #[.string text, .nilIface] from rfl] at HCr
     refine wp_region_held_drew (S := (fun w' => w'.cell? ⟨qb, qo, none⟩ = some (.int .i64 lo) ∧ w'.cell? ⟨qb, qo + 1, none⟩ = some (.int .i64 hi) ∧ w'.cell? ⟨pa, 8, none⟩ = some (.slice bA bn bc))) (by kernel_rfl) ?_ (fun hHeld => ?_)
     ·(try dsimp only); exact ⟨(HD.out _ hL).1, (HD.out _ hL).2, HB8.out _ (HF5.out.trans hL)⟩
     refine zH (v := ?_) 0 (some 73) rfl ?_ ?_; rotate_left
     ·(intro w hSw; (try dsimp only at hSw); go_simp; (try with_reducible rfl))
     try simp only [zP]
     refine zH (v := ?_) 1 (some 74) rfl ?_ ?_; rotate_left
     ·(intro w hSw; (try dsimp only at hSw); go_simp; (try with_reducible rfl))
     try simp only [zP]
     refine zH (v := ?_) 2 (some 75) rfl ?_ ?_; rotate_left
     ·(intro w hSw; (try dsimp only at hSw); go_simp; (try with_reducible rfl))
     try simp only [zP]
     refine zH (v := ?_) 3 (some 76) rfl ?_ ?_; rotate_left
     ·(intro w hSw; (try dsimp only at hSw); go_simp; (try with_reducible rfl))
     try simp only [zP]
     refine zH (v := ?_) 4 (some 77) rfl ?_ ?_; rotate_left
     ·(intro w hSw; (try dsimp only at hSw); go_simp; (try with_reducible rfl))
     try simp only [zP]
     refine zH (v := ?_) 5 (some 78) rfl ?_ ?_; rotate_left
     ·(intro w hSw; (try dsimp only at hSw); go_simp; (try with_reducible rfl))
     try simp only [zP]
     refine zH (v := ?_) 6 (some 79) rfl ?_ ?_; rotate_left
     ·(intro w hSw; (try dsimp only at hSw); go_simp; (try with_reducible rfl))
     try simp only [zP]
     refine zH (v := ?_) 7 (some 80) rfl ?_ ?_; rotate_left
     ·(intro w hSw; (try dsimp only at hSw); go_simp; (try with_reducible rfl))
     try simp only [zP]
     refine wpAnyH_ready (rs := [8]) (by kernel_rfl) (by simp) ?_
     refine AllReadyH.cons (o := ⟨some 81, _, _, _, _, _⟩) rfl (fun K hK => ?_) AllReadyH.nil
     go_simp
     refine (HCr.out _ (HF5.out.trans hL)).mono ?_; rintro e w7 ⟨rfl, hb7⟩; replace hL := hL.trans hb7; clear hb7
     try go_wp2_with fail
     refine hK.out _ _ ?_ (fun hHeld => ?_)
     ·(try dsimp only); exact ⟨(HD.out _ hL).1, (HD.out _ hL).2, HB8.out _ (HF5.out.trans hL)⟩
     clear hK K
     try simp only [zP]
     refine zH (v := ?_) 9 (some 72) rfl ?_ ?_; rotate_left
     ·(intro w hSw; (try dsimp only at hSw); go_simp; (try with_reducible rfl))
     try simp only [zP]
     refine zH (v := ?_) 10 (some 82) rfl ?_ ?_; rotate_left
     ·(intro w hSw; (try dsimp only at hSw); go_simp; (try with_reducible rfl))
     try simp only [zP]
     refine zH (v := ?_) 11 (some 83) rfl ?_ ?_; rotate_left
     ·(intro w hSw; (try dsimp only at hSw); go_simp; (try with_reducible rfl))
     try simp only [zP]
     refine zH (v := ?_) 12 (some 10) rfl ?_ ?_; rotate_left
     ·(intro w hSw; (try dsimp only at hSw); go_simp; (try with_reducible rfl))
     try simp only [zP]
     refine zH (v := ?_) 13 (some 9) rfl ?_ ?_; rotate_left
     ·(intro w hSw; (try dsimp only at hSw); go_simp; (try with_reducible rfl))
     try simp only [zP]
     refine wpAnyH_done (by kernel_rfl) ?_ _
     have hF7 := HF5.out.trans hL
     obtain ⟨d0, d1⟩ := HD.out _ hL
     have HA7 := zi (HA.out.ext hF7)
     have HZ := HA7.out.putR 206 lo hi
     have HZ := zi HZ
     have k1 : w7.cell? ⟨pa, 1, none⟩ = some (.int .i64 status) := HA7.out.blk.cell 1
     have k5 : w7.cell? ⟨pa, 5, none⟩ = some (.int .i64 lo0) := HA7.out.blk.cell 5
     have k6 : w7.cell? ⟨pa, 6, none⟩ = some (.int .i64 hi0) := HA7.out.blk.cell 6
     have f1 : w7.frozen? ⟨pa, 1, none⟩ = false := HA7.out.blk.frozen 1
     have f5 : w7.frozen? ⟨pa, 5, none⟩ = false := HA7.out.blk.frozen 5
     have f6 : w7.frozen? ⟨pa, 6, none⟩ = false := HA7.out.blk.frozen 6
     go_upto_region 14 with fail
     have HW13 := zi ((Keeps.of hF7).trans HZ.out.2)
     have HZ1 := zi HZ.out.1
     have HD13 := zi (⟨far_cell (far_cell (far_cell d0 hqb) hqb) hqb, far_cell (far_cell (far_cell d1 hqb) hqb) hqb⟩ : (((w7.setCell ⟨pa, 1, none⟩ (.int .i64 206)).setCell ⟨pa, 5, none⟩ (.int .i64 lo)).setCell ⟨pa, 6, none⟩ (.int .i64 hi)).cell? ⟨qb, qo, none⟩ = some (.int .i64 lo) ∧ (((w7.setCell ⟨pa, 1, none⟩ (.int .i64 206)).setCell ⟨pa, 5, none⟩ (.int .i64 lo)).setCell ⟨pa, 6, none⟩ (.int .i64 hi)).cell? ⟨qb, qo + 1, none⟩ = some (.int .i64 hi))
     clear k1 k5 k6 f1 f5 f6 d0 d1 HZ HA7
     generalize (((w7.setCell ⟨pa, 1, none⟩ (.int .i64 206)).setCell ⟨pa, 5, none⟩ (.int .i64 lo)).setCell ⟨pa, 6, none⟩ (.int .i64 hi)) = W13 at *
     have hpW : pa < W13.heap.size := Nat.lt_of_lt_of_le hplt HW13.out.size
     have HSt := zi (fun w' (hx : Ext W13 w') => HSt.out w' text (HZ1.out.ext hx).fs.rd)
     have hL := (Ext.refl W13).drew
     have HS14 := zi (fun w' (hx : Ext W13 w') => (⟨(HZ1.out.blk.ext hx).cell 7, (HZ1.out.blk.ext hx).cell 8, hx.cell HD13.out.1, hx.cell HD13.out.2⟩ : w'.cell? ⟨pa, 7, none⟩ = some (.slice fA fn fc) ∧ w'.cell? ⟨pa, 8, none⟩ = some (.slice bA bn bc) ∧ w'.cell? ⟨qb, qo, none⟩ = some (.int .i64 lo) ∧ w'.cell? ⟨qb, qo + 1, none⟩ = some (.int .i64 hi)))
     obtain ⟨i, hi0⟩ : ∃ i : Nat, lo = i := ⟨lo.toNat, by omega⟩
     obtain ⟨j, hj0⟩ : ∃ j : Nat, hi = j := ⟨hi.toNat, by omega⟩
     subst hi0; subst hj0
     have hbc := HZ1.out.bd.cap
     simp only at hbc
     have hij : i ≤ j := by omega
     have hjb : j ≤ bn := by omega
     have g1 : (0 : Int) ≤ (i : Int) := by omega
     have g2 : (i : Int) ≤ (j : Int) := by omega
     have g3 : (j : Int) ≤ (bc : Int) := by omega
     have g4 : (0 : Int) ≤ (j : Int) := by omega
     refine wp_region_U (S := (fun w' => w'.cell? ⟨pa, 7, none⟩ = some (.slice fA fn fc) ∧ w'.cell? ⟨pa, 8, none⟩ = some (.slice bA bn bc) ∧ w'.cell? ⟨qb, qo, none⟩ = some (.int .i64 i) ∧ w'.cell? ⟨qb, qo + 1, none⟩ = some (.int .i64 j))) 23 (by kernel_rfl) ?_ (fun hHeld => ?_)
     ·(try dsimp only); exact HS14.out _ hL
     refine wpAnyU_takeW (i := 0) (oi := ⟨some 97, _, _, _, _, _⟩) (v := ?_) (by kernel_rfl) rfl (by kernel_rfl) (by kernel_rfl) (by kernel_rfl) (fun _ _ _ h => h) (Or.inl ⟨by rfl, ?_⟩) (by assumption) ?_
     rotate_left
     ·(intro w hSw; (try dsimp only at hSw); go_simp; (try with_reducible rfl))
     try simp only [zP]
     refine wpAnyU_takeW (i := 1) (oi := ⟨some 98, _, _, _, _, _⟩) (v := ?_) (by kernel_rfl) rfl (by kernel_rfl) (by kernel_rfl) (by kernel_rfl) (fun _ _ _ h => h) (Or.inl ⟨by rfl, ?_⟩) (by assumption) ?_
     rotate_left
     ·(intro w hSw; (try dsimp only at hSw); go_simp; (try with_reducible rfl))
     try simp only [zP]
     refine wpAnyU_takeW (i := 2) (oi := ⟨some 99, _, _, _, _, _⟩) (v := ?_) (by kernel_rfl) rfl (by kernel_rfl) (by kernel_rfl) (by kernel_rfl) (fun _ _ _ h => h) (Or.inl ⟨by rfl, ?_⟩) (by assumption) ?_
     rotate_left
     ·(intro w hSw; (try dsimp only at hSw); go_simp; (try with_reducible rfl))
     try simp only [zP]
     refine wpAnyU_takeW (i := 3) (oi := ⟨some 100, _, _, _, _, _⟩) (v := ?_) (by kernel_rfl) rfl (by kernel_rfl) (by kernel_rfl) (by kernel_rfl) (fun _ _ _ h => h) (Or.inl ⟨by rfl, ?_⟩) (by assumption) ?_
     rotate_left
     ·(intro w hSw; (try dsimp only at hSw); go_simp; (try with_reducible rfl))
     try simp only [zP]
     refine wpAnyU_takeW (i := 4) (oi := ⟨some 101, _, _, _, _, _⟩) (v := ?_) (by kernel_rfl) rfl (by kernel_rfl) (by kernel_rfl) (by kernel_rfl) (fun _ _ _ h => h) (Or.inl ⟨by rfl, ?_⟩) (by assumption) ?_
     rotate_left
     ·(intro w hSw; (try dsimp only at hSw); go_simp; (try with_reducible rfl))
     try simp only [zP]
     refine wpAnyU_take (i := 5) (oi := ⟨some 102, _, _, _, _, _⟩) (v := ?_) [7, 21, 22, 23, 24, 25, 26] (by kernel_rfl) (by kernel_rfl) (by kernel_rfl) (by kernel_rfl) rfl (by kernel_rfl) (by kernel_rfl) (by kernel_rfl) (fun _ _ _ h => h) (Or.inl ⟨by rfl, ?_⟩) (by assumption) ?_
     rotate_left
     ·(intro w hSw; (try dsimp only at hSw); go_simp; (try with_reducible rfl))
     try simp only [zP]
     refine wpAnyU_takeW (i := 6) (oi := ⟨some 103, _, _, _, _, _⟩) (v := ?_) (by kernel_rfl) rfl (by kernel_rfl) (by kernel_rfl) (by kernel_rfl) (fun _ _ _ h => h) (Or.inl ⟨by rfl, ?_⟩) (by assumption) ?_
     rotate_left
     ·(intro w hSw; (try dsimp only at hSw); go_simp; (try with_reducible rfl))
     try simp only [zP]
     refine wpAnyU_takeW (i := 8) (oi := ⟨some 105, _, _, _, _, _⟩) (v := ?_) (by kernel_rfl) rfl (by kernel_rfl) (by kernel_rfl) (by kernel_rfl) (fun _ _ _ h => h) (Or.inl ⟨by rfl, ?_⟩) (by assumption) ?_
     rotate_left
     ·(intro w hSw; (try dsimp only at hSw); go_simp; (try with_reducible rfl))
     try simp only [zP]
     refine wpAnyU_takeW (i := 9) (oi := ⟨some 106, _, _, _, _, _⟩) (v := ?_) (by kernel_rfl) rfl (by kernel_rfl) (by kernel_rfl) (by kernel_rfl) (fun _ _ _ h => h) (Or.inl ⟨by rfl, ?_⟩) (by assumption) ?_
     rotate_left
     ·(intro w hSw; (try dsimp only at hSw); go_simp; (try with_reducible rfl))
     try simp only [zP]
     refine wpAnyU_takeW (i := 10) (oi := ⟨some 107, _, _, _, _, _⟩) (v := ?_) (by kernel_rfl) rfl (by kernel_rfl) (by kernel_rfl) (by kernel_rfl) (fun _ _ _ h => h) (Or.inl ⟨by rfl, ?_⟩) (by assumption) ?_
     rotate_left
     ·(intro w hSw; (try dsimp only at hSw); go_simp; (try with_reducible rfl))
     try simp only [zP]
     refine wpAnyU_take (i := 11) (oi := ⟨some 108, _, _, _, _, _⟩) (v := ?_) [20, 21, 22, 23, 24, 25, 26] (by kernel_rfl) (by kernel_rfl) (by kernel_rfl) (by kernel_rfl) rfl (by kernel_rfl) (by kernel_rfl) (by kernel_rfl) (fun _ _ _ h => h) (Or.inl ⟨by rfl, ?_⟩) (by assumption) ?_
     rotate_left
     ·(intro w hSw; (try dsimp only at hSw); go_simp; (try with_reducible rfl))
     try simp only [zP]
     refine wpAnyU_takeW (i := 12) (oi := ⟨some 109, _, _, _, _, _⟩) (v := ?_) (by kernel_rfl) rfl (by kernel_rfl) (by kernel_rfl) (by kernel_rfl) (fun _ _ _ h => h) (Or.inl ⟨by rfl, ?_⟩) (by assumption) ?_
     rotate_left
     ·(intro w hSw; (try dsimp only at hSw); go_simp; (try with_reducible rfl))
     try simp only [zP]
     refine wpAnyU_takeW (i := 13) (oi := ⟨some 110, _, _, _, _, _⟩) (v := ?_) (by kernel_rfl) rfl (by kernel_rfl) (by kernel_rfl) (by kernel_rfl) (fun _ _ _ h => h) (Or.inl ⟨by rfl, ?_⟩) (by assumption) ?_
     rotate_left
     ·(intro w hSw; (try dsimp only at hSw); go_simp; (try with_reducible rfl))
     try simp only [zP]
     refine wpAnyU_takeW (i := 14) (oi := ⟨some 111, _, _, _, _, _⟩) (v := ?_) (by kernel_rfl) rfl (by kernel_rfl) (by kernel_rfl) (by kernel_rfl) (fun _ _ _ h => h) (Or.inl ⟨by rfl, ?_⟩) (by assumption) ?_
     rotate_left
     ·(intro w hSw; (try dsimp only at hSw); go_simp; (try with_reducible rfl))
     try simp only [zP]
     refine wpAnyU_take (i := 15) (oi := ⟨some 112, _, _, _, _, _⟩) (v := ?_) [20, 21, 22, 23, 24, 25, 26] (by kernel_rfl) (by kernel_rfl) (by kernel_rfl) (by kernel_rfl) rfl (by kernel_rfl) (by kernel_rfl) (by kernel_rfl) (fun _ _ _ h => h) (Or.inl ⟨by rfl, ?_⟩) (by assumption) ?_
     rotate_left
     ·(intro w hSw; (try dsimp only at hSw); go_simp; (try with_reducible rfl))
     try simp only [zP]
     refine wpAnyU_takeW (i := 16) (oi := ⟨some 113, _, _, _, _, _⟩) (v := ?_) (by kernel_rfl) rfl (by kernel_rfl) (by kernel_rfl) (by kernel_rfl) (fun _ _ _ h => h) (Or.inl ⟨by rfl, ?_⟩) (by assumption) ?_
     rotate_left
     ·(intro w hSw; (try dsimp only at hSw); go_simp; (try with_reducible rfl))
     try simp only [zP]
     refine wpAnyU_takeW (i := 17) (oi := ⟨some 114, _, _, _, _, _⟩) (v := ?_) (by kernel_rfl) rfl (by kernel_rfl) (by kernel_rfl) (by kernel_rfl) (fun _ _ _ h => h) (Or.inl ⟨by rfl, ?_⟩) (by assumption) ?_
     rotate_left
     ·(intro w hSw; (try dsimp only at hSw); go_simp; (try with_reducible rfl))
     try simp only [zP]
     refine wpAnyU_takeW (i := 18) (oi := ⟨some 115, _, _, _, _, _⟩) (v := ?_) (by kernel_rfl) rfl (by kernel_rfl) (by kernel_rfl) (by kernel_rfl) (fun _ _ _ h => h) (Or.inl ⟨by rfl, ?_⟩) (by assumption) ?_
     rotate_left
     ·(intro w hSw; (try dsimp only at hSw); go_simp; (try with_reducible rfl))
     try simp only [zP]
     refine wpAnyU_take (i := 19) (oi := ⟨some 116, _, _, _, _, _⟩) (v := ?_) [20, 21, 22, 23, 24, 25, 26] (by kernel_rfl) (by kernel_rfl) (by kernel_rfl) (by kernel_rfl) rfl (by kernel_rfl) (by kernel_rfl) (by kernel_rfl) (fun _ _ _ h => h) (Or.inl ⟨by rfl, ?_⟩) (by assumption) ?_
     rotate_left
     ·(intro w hSw; (try dsimp only at hSw); go_simp; (try with_reducible rfl))
     try simp only [zP]
     refine wpAnyU_takeW (i := 20) (oi := ⟨some 117, _, _, _, _, _⟩) (v := ?_) (by kernel_rfl) rfl (by kernel_rfl) (by kernel_rfl) (by kernel_rfl) (fun _ _ _ h => h) (Or.inl ⟨by rfl, ?_⟩) (by assumption) ?_
     rotate_left
     ·(intro w hSw; (try dsimp only at hSw); go_simp; (try with_reducible rfl))
     try simp only [zP]
     refine wpAnyU_ready (rs := [7]) (by kernel_rfl) (by simp) ?_
     refine AllReadyU.cons (o := ⟨some 104, _, _, _, _, _⟩) rfl (fun K hK => ?_) AllReadyU.nil
     go_simp
     refine (HSt.out _ hL).mono ?_; rintro e w8 ⟨nA, nn, nc, rfl, -, hnc, hb8, hown8⟩; have hown8 := zi hown8; replace hL := hL.trans hb8; clear hb8
     try go_wp2_with fail
     refine hK.out _ _ ?_ (fun hHeld => ?_)
     ·(try dsimp only); exact HS14.out _ hL
     clear hK K
     try simp only [zP]
     refine wpAnyU_takeW (i := 21) (oi := ⟨some 118, _, _, _, _, _⟩) (v := ?_) (by kernel_rfl) rfl (by kernel_rfl) (by kernel_rfl) (by kernel_rfl) (fun _ _ _ h => h) (Or.inl ⟨by rfl, ?_⟩) (by assumption) ?_
     rotate_left
     ·(intro w hSw; (try dsimp only at hSw); go_simp; (try with_reducible rfl))
     try simp only [zP]
     refine wpAnyU_takeW (i := 22) (oi := ⟨some 119, _, _, _, _, _⟩) (v := ?_) (by kernel_rfl) rfl (by kernel_rfl) (by kernel_rfl) (by kernel_rfl) (fun _ _ _ h => h) (Or.inl ⟨by rfl, ?_⟩) (by assumption) ?_
     rotate_left
     ·(intro w hSw; (try dsimp only at hSw); go_simp; (try with_reducible rfl))
     try simp only [zP]
     refine wpAnyU_ready (rs := [23]) (by kernel_rfl) (by simp) ?_
     refine AllReadyU.stop (o := ⟨none, _, _, _, _, _⟩) rfl (by kernel_rfl) (fun K hK => ?_) AllReadyU.nil
     have HB8x := HZ1.out.blk.ext hL; have k7 : w8.cell? ⟨pa, 7, none⟩ = some (.slice fA fn fc) := HB8x.cell 7; have k8 : w8.cell? ⟨pa, 8, none⟩ = some (.slice bA bn bc) := HB8x.cell 8; have f7 : w8.frozen? ⟨pa, 7, none⟩ = false := HB8x.frozen 7; have f8 : w8.frozen? ⟨pa, 8, none⟩ = false := HB8x.frozen 8; clear HB8x
     go_simp
     try go_wp2_with fail
     refine hK.out _ _ ?_ (fun hHeld => ?_)
     ·(try dsimp only); (try trivial)
     clear hK K
     try simp only [zP]
     refine zH (v := ?_) 24 (some 120) rfl ?_ ?_; rotate_left
     ·(intro w hSw; (try dsimp only at hSw); go_simp; (try with_reducible rfl))
     try simp only [zP]
     refine zH (v := ?_) 25 (some 121) rfl ?_ ?_; rotate_left
     ·(intro w hSw; (try dsimp only at hSw); go_simp; (try with_reducible rfl))
     try simp only [zP]
     refine wpAnyH_ready (rs := [26]) (by kernel_rfl) (by simp) ?_
     refine AllReadyH.cons (o := ⟨none, _, _, _, _, _⟩) rfl (fun K hK => ?_) AllReadyH.nil
     go_simp
     try go_wp2_with fail
     refine hK.out _ _ ?_ (fun hHeld => ?_)
     ·(try dsimp only); (try trivial)
     clear hK K
     try simp only [zP]
     refine wpAnyH_done (by kernel_rfl) ?_ _
     clear k7 k8 f7 f8
     have hB8 := (HZ1.out.ext hL).bd
     have hrd : Rd w8 1 (Option.map (fun x => x.add i) bA) (j - i) (bytC (body.extract i j)) := by
      have h1 := hB8.rd.drop (i := i) (by simp only; omega) hB8.cap
      rw [if_neg (by simp only; omega)] at h1
      have h2 := h1.take (i := j - i) (by simp only; omega)
      simp only [Nat.mul_one] at h2
      rw [bytC_cut body i j (by omega) (by rw [hbn]; omega)] at h2
      exact h2
     have hRB : RS (fun i => i = pa) w8 1 ⟨Option.map (fun x => x.add i) bA, j - i, bc - i⟩ (bytC (body.extract i j)) := ⟨hrd, fun h0 a ha hp => by
      obtain ⟨a0, ha0, rfl⟩ := Option.map_eq_some_iff.1 ha
      refine hB8.out (by rw [bytC_len]; simp only; omega) a0 ha0 ?_
      rw [← show (a0.add i).block = pa from hp]
      unfold Addr.add; split <;> rfl, by simp only; omega⟩
     have hRF : RS (fun i => i = pa) w8 2 ⟨nA, nn, nc⟩ (fldCells (setS x_cr text afs)) := ⟨Rd.of_own hown8.out, fun h1 a ha hb => by
      have h9 := (hown8.out.lt a.block (by simp only at ha; subst ha; rfl)).1
      have h8 : pa < W13.drew.heap.size := hpW
      (try simp only at hb)
      omega, hnc⟩
     have HZ2 := zi ((HZ1.out.ext hL).put2 hRF hRB)
     simp only [Sl.v] at HZ2
     generalize ((w8.setCell ⟨pa, 7, none⟩ (.slice nA nn nc)).setCell ⟨pa, 8, none⟩ (.slice (Option.map (fun x => x.add i) bA) (j - i) (bc - i))) = wF at *
     clear hB8 hrd hRB hRF
     go_wp2_with fail
     go_ret
     exact ⟨true, rfl, ⟨_, _, by rw [HP.out]; exact HZ2.out.1⟩, (HW13.out.trans (Keeps.of hL)).trans HZ2.out.2⟩
end Go.Proofs.YtmckbcbdnckngaaGreatDoor

namespace Go.Proofs.YtmckbcbdnckngaaGreatDoor

theorem isN_iff {name : ByteArray} {f : Fd} : isN name f = true ↔ lowS f.1 = lowS name := eqS_iff
end Go.Proofs.YtmckbcbdnckngaaGreatDoor

namespace Go.Proofs.YtmckbcbdnckngaaGreatDoor

theorem lowC_low (c : UInt8) : lowC (lowC c) = lowC c := by
 by_cases h : (65 ≤ c && c ≤ 90) = true
 ·have h1 : lowC c = c + 32 := by rw [lowC, if_pos h]
  rw [h1, lowC, if_neg]
  simp only [Bool.and_eq_true, decide_eq_true_eq, UInt8.le_iff_toNat_le, UInt8.toNat_add, not_and, Nat.not_le] at *
  intro _
  have : (65 : UInt8).toNat = 65 := rfl
  have : (90 : UInt8).toNat = 90 := rfl
  have : (32 : UInt8).toNat = 32 := rfl
  omega
 ·have h1 : lowC c = c := by rw [lowC, if_neg h]
  rw [h1, h1]
theorem lowS_low (s : ByteArray) : lowS (lowS s) = lowS s := by
 apply bytes_ext
 simp [lowS, lowL, lowC_low]
theorem isN_low (name v : ByteArray) (o : ByteArray) : isN o (lowS name, v) = decide (lowS name = lowS o) := by
 rw [Bool.eq_iff_iff, isN_iff, decide_eq_true_iff, lowS_low]
theorem allS_one_same (name v : ByteArray) : allS [(lowS name, v)] name = [v] := by
 simp [allS, isN_low]
theorem allS_one_other {name o : ByteArray} (v : ByteArray) (h : lowS name ≠ lowS o) : allS [(lowS name, v)] o = [] := by
 simp [allS, isN_low, h]
theorem allS_cons (f : Fd) (fs : List Fd) (o : ByteArray) : allS (f :: fs) o = (if isN o f then [f.2] else []) ++ allS fs o := by
 unfold allS
 by_cases h : isN o f = true
 ·simp [h]
 ·simp [h]
theorem allS_rem_same (fs : List Fd) (name : ByteArray) : allS (remS fs name) name = [] := by
 unfold allS remS
 rw [List.filter_filter]
 have : (fs.filter fun a => isN name a && !isN name a) = [] := by
  rw [List.filter_eq_nil_iff]; intro a _; simp
 rw [this]; rfl
theorem allS_rem_other (fs : List Fd) {name o : ByteArray} (h : lowS name ≠ lowS o) : allS (remS fs name) o = allS fs o := by
 unfold allS remS
 rw [List.filter_filter]
 congr 1
 apply List.filter_congr
 intro f _
 by_cases h1 : isN o f = true
 ·have h2 : isN name f = false := by
   rw [Bool.eq_false_iff]; intro h3
   exact h ((isN_iff.1 h3).symm.trans (isN_iff.1 h1))
  simp [h1, h2]
 ·simp [h1]
theorem allS_set_same (name value : ByteArray) : ∀ fs : List Fd, allS (setS name value fs) name = [value]
 | [] => allS_one_same name value
 | f :: r => by
  unfold setS
  by_cases h : isN name f = true
  ·rw [if_pos h, allS_cons, allS_rem_same, isN_low]; simp
  ·rw [if_neg h, allS_cons, if_neg h, allS_set_same name value r]; rfl
theorem allS_set_other {name o : ByteArray} (value : ByteArray) (hne : lowS name ≠ lowS o) : ∀ fs : List Fd, allS (setS name value fs) o = allS fs o
 | [] => by rw [setS, allS_one_other value hne]; rfl
 | f :: r => by
  unfold setS
  by_cases h : isN name f = true
  ·have h2 : isN o f = false := by
    rw [Bool.eq_false_iff]; intro h3
    exact hne ((isN_iff.1 h).symm.trans (isN_iff.1 h3))
   rw [if_pos h, allS_cons, allS_cons, allS_rem_other r hne, isN_low, h2]; simp [hne]
  ·rw [if_neg h, allS_cons, allS_cons, allS_set_other value hne r]
theorem setS_bsz {B : Nat} {name value : ByteArray} (h1 : name.size ≤ B) (h2 : value.size ≤ B) : ∀ {fs : List Fd}, Bsz B fs → Bsz B (setS name value fs)
 | [], _ => by intro f hf; simp [setS] at hf; subst hf; exact ⟨by rw [lowS_size]; exact h1, h2⟩
 | g :: r, h => by
  have hr : Bsz B r := fun f hf => h f (List.mem_cons_of_mem _ hf)
  unfold setS
  split
  ·intro f hf
   rcases List.mem_cons.1 hf with rfl | hf
   ·exact ⟨by rw [lowS_size]; exact h1, h2⟩
   ·exact hr f ((List.mem_filter.1 hf).1)
  ·intro f hf
   rcases List.mem_cons.1 hf with rfl | hf
   ·exact h _ (List.mem_cons_self ..)
   ·exact setS_bsz h1 h2 hr f hf
end Go.Proofs.YtmckbcbdnckngaaGreatDoor

namespace Go.Proofs.YtmckbcbdnckngaaGreatDoor
open Go.RowKit

end Go.Proofs.YtmckbcbdnckngaaGreatDoor

namespace Go.Proofs.YtmckbcbdnckngaaGreatDoor

theorem getO_one {fs : List Fd} {o v : ByteArray} (h : allS fs o = [v]) : getO fs o = some v := by
 unfold getO; rw [h, joinS_one]; rfl
theorem getO_nil {fs : List Fd} {o : ByteArray} (h : allS fs o = []) : getO fs o = none := by unfold getO; rw [h]; rfl
theorem sumF_cons (f : Fd) (fs : List Fd) : sumF (f :: fs) = f.1.size + f.2.size + sumF fs := by simp [sumF]
theorem sumF_nil : sumF [] = 0 := rfl
theorem sumF_rem (name : ByteArray) : ∀ fs : List Fd, sumF (remS fs name) ≤ sumF fs
 | [] => Nat.le_refl _
 | f :: r => by
  have := sumF_rem name r
  unfold remS at *
  rw [List.filter_cons]
  split
  ·rw [sumF_cons, sumF_cons]; omega
  ·rw [sumF_cons]; omega
theorem sumF_set (name value : ByteArray) : ∀ fs : List Fd, sumF (setS name value fs) ≤ sumF fs + name.size + value.size
 | [] => by rw [setS, sumF_cons, sumF_nil]; simp only [lowS_size]; omega
 | f :: r => by
  unfold setS
  split
  ·have := sumF_rem name r
   rw [sumF_cons, sumF_cons]; simp only [lowS_size]; omega
  ·have := sumF_set name value r
   rw [sumF_cons, sumF_cons]; omega
theorem evF_range (m : ByteArray) (fs : List Fd) (st : St) : (evF m fs st = 1 ∨ evF m fs st = 2 ∨ evF m fs st = 3) ∧ (evF m fs st = 2 → isR m = true) := by
 unfold evF evS
 generalize evA _ _ _ = a
 generalize norm st = s
 cases a
 ·simp only [Bool.false_eq_true, if_false]
  unfold evB
  cases getO fs inmN with
  | some v =>
   show ((if matS v s false = true then _ else _) = _ ∨ (if matS v s false = true then _ else _) = _ ∨ (if matS v s false = true then _ else _) = _) ∧ ((if matS v s false = true then _ else _) = _ → _)
   generalize matS v s false = b
   cases b <;> cases isR m <;> simp
  | none =>
   cases dateF fs imsN with
   | none => simp
   | some n => cases isR m <;> cases s.hm <;> by_cases h : s.md ≤ n <;> simp [h]
 ·simp
end Go.Proofs.YtmckbcbdnckngaaGreatDoor

namespace Go.Proofs.YtmckbcbdnckngaaGreatDoor
open Go.RowKit

theorem World.size_setCell (w : World) (p : Addr) (u : Value) : (w.setCell p u).heap.size = w.heap.size := by simp [World.setCell]
theorem AnsAt.putS {W : World} {pa : Nat} {t : Int} {a : Ans} {fs bd : Sl} (h : AnsAt W pa t a fs bd) (st : Int) :
  AnsAt (W.setCell ⟨pa, 1, none⟩ (.int .i64 st)) pa t { a with status := st } fs bd ∧ Keeps (fun i => i = pa) W (W.setCell ⟨pa, 1, none⟩ (.int .i64 st)) := by
 have hK := (Keeps.refl (fun i => i = pa) W).set_ (b := pa) rfl 1 (.int .i64 st)
 exact ⟨⟨h.blk.set_ 1 _, h.fs.keep hK (fun i hi => .inl hi), h.bd.keep hK (fun i hi => .inl hi)⟩, hK⟩
theorem AnsAt.putV {W : World} {pa : Nat} {t : Int} {a : Ans} {fs bd fs' bd' : Sl} {F : List Fd} {B : ByteArray} (h : AnsAt W pa t a fs bd) (hf : RS (fun i => i = pa) W 2 fs' (fldCells F)) (hb : RS (fun i => i = pa) W 1 bd' (bytC B)) (n : Int) :
  AnsAt (((W.setCell ⟨pa, 7, none⟩ fs'.v).setCell ⟨pa, 8, none⟩ bd'.v).setCell ⟨pa, 3, none⟩ (.int .i64 n)) pa t { a with fs := F, body := B, variant := n } fs' bd' ∧
  Keeps (fun i => i = pa) W (((W.setCell ⟨pa, 7, none⟩ fs'.v).setCell ⟨pa, 8, none⟩ bd'.v).setCell ⟨pa, 3, none⟩ (.int .i64 n)) := by
 have hK := (((Keeps.refl (fun i => i = pa) W).set_ (b := pa) rfl 7 fs'.v).set_ (b := pa) rfl 8 bd'.v).set_ (b := pa) rfl 3 (.int .i64 n)
 exact ⟨⟨((h.blk.set_ 7 _).set_ 8 _).set_ 3 _, hf.keep hK (fun i hi => .inl hi), hb.keep hK (fun i hi => .inl hi)⟩, hK⟩
theorem chs_bd (v : Ver) (fs : List Fd) (B : Nat) (hb : v.body.size ≤ 1048576) (h1 : v.fs.length ≤ 131072) (h2 : sumF v.fs ≤ 131072) : ∀ (k : Nat) (l : List Vr), (∀ x ∈ l, x.tag.size ≤ 131072 ∧ x.body.size ≤ 1048576) →
  (chsS v fs k l).1.length ≤ 131073 ∧ sumF (chsS v fs k l).1 ≤ 393216 ∧ (chsS v fs k l).2.1.size ≤ 1048576
 | k, [], _ => ⟨by show v.fs.length ≤ _; omega, by show sumF v.fs ≤ _; omega, hb⟩
 | k, x :: l, hx => by
  have h9 := hx x (List.mem_cons_self ..)
  unfold chsS
  split
  ·split
   ·have q1 := remS_le v.fs x_et
    have q2 := sumF_rem x_et v.fs
    refine ⟨by simp only; omega, by simp only; omega, h9.2⟩
   ·have q1 := setS_len x_et x.tag v.fs
    have q2 := sumF_set x_et x.tag v.fs
    have q3 : x_et.size = 4 := rfl
    refine ⟨by simp only; omega, by simp only; omega, h9.2⟩
  ·exact chs_bd v fs B hb h1 h2 (k + 1) l (fun y hy => hx y (List.mem_cons_of_mem _ hy))
section
variable {a : Ans} {v : Ver} {r : Rq}
theorem ver_ne (h : v.status ≠ 200) : verS a v r = { a with status := v.status, fs := (chS v r.fs).1, body := (chS v r.fs).2.1, variant := (chS v r.fs).2.2 } := by
 unfold verS; simp only; rw [if_pos (by simpa using h)]
theorem ver_304 (h : v.status = 200) (h2 : evF r.method r.fs (stS (chS v r.fs).1) = 2) : verS a v r = { a with status := 304, fs := kptS (chS v r.fs).1, body := ⟨#[]⟩, variant := (chS v r.fs).2.2 } := by
 unfold verS; simp only; rw [if_neg (by simp [h]), if_pos (by rw [h2]; rfl)]
theorem ver_412 (h : v.status = 200) (h2 : evF r.method r.fs (stS (chS v r.fs).1) = 3) : verS a v r = { a with status := 412, fs := [], body := ⟨#[]⟩, variant := (chS v r.fs).2.2 } := by
 unfold verS; simp only; rw [if_neg (by simp [h]), if_neg (by rw [h2]; decide), if_pos (by rw [h2]; rfl)]
theorem ver_part (h : v.status = 200) (h2 : evF r.method r.fs (stS (chS v r.fs).1) = 1) : verS a v r = partS { a with status := v.status, fs := (chS v r.fs).1, body := (chS v r.fs).2.1, variant := (chS v r.fs).2.2 } r (stS (chS v r.fs).1) := by
 unfold verS; simp only; rw [if_neg (by simp [h]), if_neg (by rw [h2]; decide), if_neg (by rw [h2]; decide)]
end
theorem or_version (Q : Nat → Prop) (pa : Nat) (t : Int) (a : Ans) (fs bd : Sl) (m : MV) (r : Rq) (rA : Option Addr) (rn rc : Nat) (w : World) (h : AnsAt w pa t a fs bd) (hm : m.At Q w) (hQ : Q pa) (hB : VerB m.ver)
  (hr : RS (fun i => i = pa) w 2 ⟨rA, rn, rc⟩ (fldCells r.fs)) (hrT : sumF r.fs + 2 * rn ≤ 1048576) (hg : Gl w) (hh : GlH w) (hp : GlP w) (hgp : ∀ w', Keeps (fun i => i = pa) w w' → Gl w' ∧ GlH w' ∧ GlP w') :
  Calls Tryz.prog 81 #[.pointer (some ⟨pa, 0, none⟩), .agg m.cells.toArray, .agg #[.string r.method, .string r.target, .slice rA rn rc]] w fun e w' => ∃ v, e = .returned v ∧
   (∃ fs' bd', AnsAt w' pa t (verS a m.ver r) fs' bd') ∧ Keeps (fun i => i = pa) w w' := by
 have hplt := h.blk.lt
 obtain ⟨hA0, hK0⟩ := h.putS m.status
 have hm0 := (hm.sub (Q' := fun i => i = pa) (fun i hi => by rw [show i = pa from hi]; exact hQ)).keep hK0 (fun i hi => .inl hi)
 have hr0 := hr.keep hK0 (fun i hi => .inl hi)
 obtain ⟨g1, g2, g3⟩ := hgp _ hK0
 have hfl : m.f.length ≤ 131072 := hB.fs.1
 have hvl : m.vars.length ≤ 8 := by have := hB.vars; rw [show m.ver.vars = m.vars.map (·.1) from rfl, List.length_map] at this; exact this
 have hve := fun x (hx : x ∈ m.vars) => hB.each x.1 (List.mem_map.2 ⟨x, hx, rfl⟩)
 have HC := zi (fun w' (hx : Ext (w.setCell ⟨pa, 1, none⟩ (.int .i64 m.status)) w') => or_chosen (fun i => i = pa) m rA rn rc r.fs w' (hm0.ext hx) (hr0.ext hx).rd (fun i hi => by rw [show i = pa from hi]; exact (hA0.ext hx).blk.lt) (by omega) (by have := hB.fs.2; show sumF m.ver.fs ≤ _; omega) (by omega) (fun x h2 => ⟨(hve x h2).1, (hve x h2).2.1, by have := (hve x h2).2.2.1; omega⟩) (by omega) (by omega) (g1.ext hx))
 have Hcb := zi (show (chS m.ver r.fs).1.length ≤ 131073 ∧ sumF (chS m.ver r.fs).1 ≤ 393216 ∧ (chS m.ver r.fs).2.1.size ≤ 1048576 from chs_bd m.ver r.fs 0 hB.body hB.fs.1 hB.fs.2 0 m.ver.vars (fun x hx => ⟨(hB.each x hx).2.2.1, (hB.each x hx).2.2.2⟩))
 have hbz := bszF r.fs
 have hbz2 : Bsz 1048576 r.fs := fun f hf => ⟨by have := (hbz f hf).1; omega, by have := (hbz f hf).2; omega⟩
 have HG := zi hgp
 have Hne := zi (@ver_ne a m.ver r); have H304 := zi (@ver_304 a m.ver r); have H412 := zi (@ver_412 a m.ver r); have Hpt := zi (@ver_part a m.ver r)
 have HEr := zi (fun st => (evF_range r.method r.fs st).1)
 have HEv := zi (fun w' st (hf : RdF w' rA rn r.fs) (hx : Keeps (fun i => i = pa) w w') => val_Evaluate r.method rA rn rc r.fs st w' hf (by omega) hbz2 (by omega) hrT (hgp _ hx).2.1)
 have HPt := zi (fun w' (a' : Ans) fs' bd' st (h1 : AnsAt w' pa t a' fs' bd') (hf : RdF w' rA rn r.fs) (h2 : a'.body.size ≤ 1048576) (h3 : a'.fs.length ≤ 1073741824) (h4 : Bsz 4611686018427387904 a'.fs) (hx : Keeps (fun i => i = pa) w w') => or_part pa t a' fs' bd' r rA rn rc st w' h1 hf (by omega) hrT h2 h3 h4 (hgp _ hx).1 (hgp _ hx).2.1 (hgp _ hx).2.2)
 obtain ⟨VA, hVA⟩ : ∃ VA, verS a m.ver r = VA := ⟨_, rfl⟩
 rw [hVA] at Hne H304 H412 Hpt ⊢
 rw [show m.ver.status = m.status from rfl] at Hne H304 H412 Hpt
 generalize chS m.ver r.fs = CH at *
 obtain ⟨cf, cb, cv⟩ := CH
 have hbk := h.blk
 have k1 : w.cell? ⟨pa, 1, none⟩ = some (.int .i64 a.status) := h.blk.cell 1
 have f1 : w.frozen? ⟨pa, 1, none⟩ = false := h.blk.frozen 1
 have HA0 := zi hA0; have HK0 := zi hK0; have HR0 := zi hr0
 clear hVA hA0 hm0 hr0 hm hr h hbk g1 g2 g3 hbz hbz2 hgp hg hh hp hB hfl hvl hve
 obtain ⟨me, ta, rfs⟩ := r
 obtain ⟨vaddr, vstatus, f, vbody, vars, ⟨vfA, vfn, vfc⟩, ⟨vbA, vbn, vbc⟩, ⟨vA, vn, vc⟩⟩ := m
 obtain ⟨fA, fn, fc⟩ := fs
 obtain ⟨bA, bn, bc⟩ := bd
 simp only [MV.cells, Sl.v] at *
 have hsz0 : (w.setCell ⟨pa, 1, none⟩ (.int .i64 vstatus)).heap.size = w.heap.size := World.size_setCell _ _ _
 have HX := zi ((Blk.new (w.setCell ⟨pa, 1, none⟩ (.int .i64 vstatus)) 36 #[.string vaddr, .int .i64 vstatus, .slice vfA vfn vfc, .slice vbA vbn vbc, .slice vA vn vc]).alloc (.cells #[.string me, .string ta, .slice rA rn rc] 42))
 have HY := zi (Blk.new ((w.setCell ⟨pa, 1, none⟩ (.int .i64 vstatus)).alloc (.cells #[.string vaddr, .int .i64 vstatus, .slice vfA vfn vfc, .slice vbA vbn vbc, .slice vA vn vc] 36)) 42 #[.string me, .string ta, .slice rA rn rc])
 have hsz1 : ((w.setCell ⟨pa, 1, none⟩ (.int .i64 vstatus)).alloc (.cells #[.string vaddr, .int .i64 vstatus, .slice vfA vfn vfc, .slice vbA vbn vbc, .slice vA vn vc] 36)).heap.size = w.heap.size + 1 := by simp [World.setCell]
 rw [hsz0] at HX
 rw [hsz1] at HY
 have HEb := zi (((Ext.refl (w.setCell ⟨pa, 1, none⟩ (.int .i64 vstatus))).alloc (.cells #[.string vaddr, .int .i64 vstatus, .slice vfA vfn vfc, .slice vbA vbn vbc, .slice vA vn vc] 36)).alloc (.cells #[.string me, .string ta, .slice rA rn rc] 42))
 go_enter Tryz.func81, Tryz.ntmps81
 go_upto_region 2 with fail
 clear k1 f1
 generalize (((w.setCell ⟨pa, 1, none⟩ (.int .i64 vstatus)).alloc (.cells #[.string vaddr, .int .i64 vstatus, .slice vfA vfn vfc, .slice vbA vbn vbc, .slice vA vn vc] 36)).alloc (.cells #[.string me, .string ta, .slice rA rn rc] 42)) = Wb at *
 have HS := zi (fun w' (hx : Keeps (fun i => i = pa) Wb w') => (⟨((HX.out.keep hx (by omega))).cell 0, ((HX.out.keep hx (by omega))).cell 1, ((HX.out.keep hx (by omega))).cell 2, ((HX.out.keep hx (by omega))).cell 3, ((HX.out.keep hx (by omega))).cell 4, ((HY.out.keep hx (by omega))).cell 0, ((HY.out.keep hx (by omega))).cell 1, ((HY.out.keep hx (by omega))).cell 2⟩ : w'.cell? ⟨w.heap.size, 0, none⟩ = some (.string vaddr) ∧ w'.cell? ⟨w.heap.size, 1, none⟩ = some (.int .i64 vstatus) ∧ w'.cell? ⟨w.heap.size, 2, none⟩ = some (.slice vfA vfn vfc) ∧ w'.cell? ⟨w.heap.size, 3, none⟩ = some (.slice vbA vbn vbc) ∧ w'.cell? ⟨w.heap.size, 4, none⟩ = some (.slice vA vn vc) ∧ w'.cell? ⟨w.heap.size + 1, 0, none⟩ = some (.string me) ∧ w'.cell? ⟨w.heap.size + 1, 1, none⟩ = some (.string ta) ∧ w'.cell? ⟨w.heap.size + 1, 2, none⟩ = some (.slice rA rn rc)))
 have HRx := zi (fun w' (hx : Keeps (fun i => i = pa) Wb w') => ((HR0.out.ext HEb.out).keep hx (fun i hi => .inl hi)).rd)
 obtain ⟨x0, x1, x2, x3, x4, y0, y1, y2⟩ := HS.out _ (Keeps.refl _ _)
 go_wp2_with fail
 refine (HC.out _ HEb.out).mono ?_; rintro e w2 ⟨⟨cA, cn, cc⟩, ⟨dA, dn, dc⟩, rfl, hc1, hc2, hb2⟩
 clear x0 x1 x2 x3 x4 y0 y1 y2
 have HA2 := zi ((HA0.out.ext HEb.out).ext hb2)
 have HZ3 := zi (HA2.out.putV hc1 hc2 (cv : Nat))
 simp only [Sl.v] at HZ3 ⊢
 have k7 : w2.cell? ⟨pa, 7, none⟩ = some (.slice fA fn fc) := HA2.out.blk.cell 7
 have k8 : w2.cell? ⟨pa, 8, none⟩ = some (.slice bA bn bc) := HA2.out.blk.cell 8
 have k3 : w2.cell? ⟨pa, 3, none⟩ = some (.int .i64 a.variant) := HA2.out.blk.cell 3
 have f7 : w2.frozen? ⟨pa, 7, none⟩ = false := HA2.out.blk.frozen 7
 have f8 : w2.frozen? ⟨pa, 8, none⟩ = false := HA2.out.blk.frozen 8
 have f3 : w2.frozen? ⟨pa, 3, none⟩ = false := HA2.out.blk.frozen 3
 go_upto_region 3 with fail
 have HA3 := zi HZ3.out.1
 have HK3 := zi ((HK0.out.trans (Keeps.of (HEb.out.trans hb2))).trans HZ3.out.2)
 have HKb := zi ((Keeps.of (S := fun i => i = pa) hb2).trans HZ3.out.2)
 clear k7 k8 k3 f7 f8 f3 hc1 hc2 hb2 HA2 HZ3
 generalize (((w2.setCell ⟨pa, 7, none⟩ (.slice cA cn cc)).setCell ⟨pa, 8, none⟩ (.slice dA dn dc)).setCell ⟨pa, 3, none⟩ (.int .i64 (cv : Nat))) = w3 at *
 obtain ⟨x0, x1, x2, x3, x4, y0, y1, y2⟩ := HS.out _ HKb.out
 by_cases h200 : vstatus = 200
 rotate_left
 ·have HV := zi (Hne.out h200)
  have hq : (vstatus == 200) = false := by rw [beq_eq_false_iff_ne]; exact h200
  go_wp2_with fail
  (first | go_end0 | ((try simp only [Exit.inBlock, Exit.then]); refine bodyPost_ret (results_none rfl _ _ _) rfl ?_))
  exact ⟨_, rfl, ⟨_, _, by rw [HV.out]; exact HA3.out⟩, HK3.out⟩
 ·have hq : (vstatus == 200) = true := by rw [beq_iff_eq]; exact h200
  have hcl := HA3.out.fs.rd.lenF
  have k7 : w3.cell? ⟨pa, 7, none⟩ = some (.slice cA cn cc) := HA3.out.blk.cell 7
  have hcb := Hcb.out
  (try simp only at hcl hcb)
  go_wp2_with fail
  refine (or_state cA cn cc cf w3 HA3.out.fs.rd (by omega) (by omega) (HG.out _ HK3.out).2.1).mono ?_; rintro e w4 ⟨rfl, hb4⟩
  clear x0 x1 x2 x3 x4 y0 y1 y2 k7
  have H304 := zi (fun h => H304.out h200 h); have H412 := zi (fun h => H412.out h200 h); have Hpt := zi (fun h => Hpt.out h200 h)
  (try simp only at H304 H412 Hpt)
  generalize stS cf = st at *
  obtain ⟨ex, ht, hm, tw, tt, md⟩ := st
  simp only [stArr]
  have HT := zi (Blk.new w4 187 #[.bool ex, .bool ht, .bool hm, .bool tw, .string tt, .int .i64 md])
  have hE5 := hb4.alloc (.cells #[.bool ex, .bool ht, .bool hm, .bool tw, .string tt, .int .i64 md] 187)
  have HKb5 := zi (HKb.out.trans (Keeps.of hE5)); have HK5 := zi (HK3.out.trans (Keeps.of hE5))
  obtain ⟨x0, x1, x2, x3, x4, y0, y1, y2⟩ := HS.out _ HKb5.out
  have z0 : (w4.alloc (.cells #[.bool ex, .bool ht, .bool hm, .bool tw, .string tt, .int .i64 md] 187)).cell? ⟨w4.heap.size, 0, none⟩ = some (.bool ex) := HT.out.cell 0
  have z1 : (w4.alloc (.cells #[.bool ex, .bool ht, .bool hm, .bool tw, .string tt, .int .i64 md] 187)).cell? ⟨w4.heap.size, 1, none⟩ = some (.bool ht) := HT.out.cell 1
  have z2 : (w4.alloc (.cells #[.bool ex, .bool ht, .bool hm, .bool tw, .string tt, .int .i64 md] 187)).cell? ⟨w4.heap.size, 2, none⟩ = some (.bool hm) := HT.out.cell 2
  have z3 : (w4.alloc (.cells #[.bool ex, .bool ht, .bool hm, .bool tw, .string tt, .int .i64 md] 187)).cell? ⟨w4.heap.size, 3, none⟩ = some (.bool tw) := HT.out.cell 3
  have z4 : (w4.alloc (.cells #[.bool ex, .bool ht, .bool hm, .bool tw, .string tt, .int .i64 md] 187)).cell? ⟨w4.heap.size, 4, none⟩ = some (.string tt) := HT.out.cell 4
  have z5 : (w4.alloc (.cells #[.bool ex, .bool ht, .bool hm, .bool tw, .string tt, .int .i64 md] 187)).cell? ⟨w4.heap.size, 5, none⟩ = some (.int .i64 md) := HT.out.cell 5
  go_wp2_with fail
  refine (HEv.out _ ⟨ex, ht, hm, tw, tt, md⟩ (HRx.out _ HKb5.out) HK5.out).mono ?_; rintro e w6 ⟨rfl, hb6⟩
  clear x0 x1 x2 x3 x4 y0 y1 y2 z0 z1 z2 z3 z4 z5
  have hE6 := hE5.trans hb6
  have HK6 := zi (HK5.out.trans (Keeps.of hb6)); have HKb6 := zi (HKb5.out.trans (Keeps.of hb6))
  have HA6 := zi (HA3.out.ext hE6)
  have hE := HEr.out ⟨ex, ht, hm, tw, tt, md⟩
  generalize evF me rfs ⟨ex, ht, hm, tw, tt, md⟩ = E at *
  have hplt6 : pa < w6.heap.size := HA6.out.blk.lt
  have k7 : w6.cell? ⟨pa, 7, none⟩ = some (.slice cA cn cc) := HA6.out.blk.cell 7
  rcases hE with rfl | rfl | rfl
  ·have HV := zi (Hpt.out rfl)
   obtain ⟨x0, x1, x2, x3, x4, y0, y1, y2⟩ := HS.out _ HKb6.out
   have z0 : w6.cell? ⟨w4.heap.size, 0, none⟩ = some (.bool ex) := (HT.out.ext hb6).cell 0
   have z1 : w6.cell? ⟨w4.heap.size, 1, none⟩ = some (.bool ht) := (HT.out.ext hb6).cell 1
   have z2 : w6.cell? ⟨w4.heap.size, 2, none⟩ = some (.bool hm) := (HT.out.ext hb6).cell 2
   have z3 : w6.cell? ⟨w4.heap.size, 3, none⟩ = some (.bool tw) := (HT.out.ext hb6).cell 3
   have z4 : w6.cell? ⟨w4.heap.size, 4, none⟩ = some (.string tt) := (HT.out.ext hb6).cell 4
   have z5 : w6.cell? ⟨w4.heap.size, 5, none⟩ = some (.int .i64 md) := (HT.out.ext hb6).cell 5
   go_wp2_with fail
   have hbz := bszF cf
   refine (HPt.out w6 _ _ _ ⟨ex, ht, hm, tw, tt, md⟩ HA6.out (HRx.out _ HKb6.out) hcb.2.2 (by simp only; omega) (fun f hf => ⟨by have := (hbz f hf).1; omega, by have := (hbz f hf).2; omega⟩) HK6.out).mono ?_; rintro e w7 ⟨b, rfl, ⟨fs7, bd7, h7⟩, hk7⟩
   go_wp2_with fail
   (first | go_end0 | ((try simp only [Exit.inBlock, Exit.then]); refine bodyPost_ret (results_none rfl _ _ _) rfl ?_))
   exact ⟨_, rfl, ⟨_, _, by rw [HV.out]; exact h7⟩, HK6.out.trans hk7⟩
  ·have HV := zi (H304.out rfl)
   go_wp2_with fail
   refine (or_kept cA cn cc cf w6 HA6.out.fs.rd (by omega)).mono ?_; rintro e w7 ⟨⟨kA, kn, kc⟩, rfl, hk7, hb7⟩
   have HA7 := zi (HA6.out.ext hb7)
   have HZ := zi (HA7.out.put3 (hk7.sub (Q' := fun i => i = pa) (fun i hi => by rw [show i = pa from hi]; exact hplt6)) (show RS _ _ 1 sl0 (bytC ⟨#[]⟩) from RS.nil _ _ _) 304)
   simp only [Sl.v, sl0] at HZ ⊢
   clear k7
   have k1 : w7.cell? ⟨pa, 1, none⟩ = some (.int .i64 vstatus) := HA7.out.blk.cell 1
   have f1 : w7.frozen? ⟨pa, 1, none⟩ = false := HA7.out.blk.frozen 1
   have k7 : w7.cell? ⟨pa, 7, none⟩ = some (.slice cA cn cc) := HA7.out.blk.cell 7
   have f7 : w7.frozen? ⟨pa, 7, none⟩ = false := HA7.out.blk.frozen 7
   have k8 : w7.cell? ⟨pa, 8, none⟩ = some (.slice dA dn dc) := HA7.out.blk.cell 8
   have f8 : w7.frozen? ⟨pa, 8, none⟩ = false := HA7.out.blk.frozen 8
   go_wp2_with fail
   (first | go_end0 | ((try simp only [Exit.inBlock, Exit.then]); refine bodyPost_ret (results_none rfl _ _ _) rfl ?_))
   exact ⟨_, rfl, ⟨_, _, by rw [HV.out]; exact HZ.out.1⟩, (HK6.out.trans (Keeps.of hb7)).trans HZ.out.2⟩
  ·have HV := zi (H412.out rfl)
   have HZ := zi (HA6.out.put3 (show RS _ _ 2 sl0 (fldCells []) from RS.nil _ _ _) (show RS _ _ 1 sl0 (bytC ⟨#[]⟩) from RS.nil _ _ _) 412)
   simp only [Sl.v, sl0] at HZ
   clear k7
   have k1 : w6.cell? ⟨pa, 1, none⟩ = some (.int .i64 vstatus) := HA6.out.blk.cell 1
   have f1 : w6.frozen? ⟨pa, 1, none⟩ = false := HA6.out.blk.frozen 1
   have k7 : w6.cell? ⟨pa, 7, none⟩ = some (.slice cA cn cc) := HA6.out.blk.cell 7
   have f7 : w6.frozen? ⟨pa, 7, none⟩ = false := HA6.out.blk.frozen 7
   have k8 : w6.cell? ⟨pa, 8, none⟩ = some (.slice dA dn dc) := HA6.out.blk.cell 8
   have f8 : w6.frozen? ⟨pa, 8, none⟩ = false := HA6.out.blk.frozen 8
   go_wp2_with fail
   (first | go_end0 | ((try simp only [Exit.inBlock, Exit.then]); refine bodyPost_ret (results_none rfl _ _ _) rfl ?_))
   exact ⟨_, rfl, ⟨_, _, by rw [HV.out]; exact HZ.out.1⟩, HK6.out.trans HZ.out.2⟩
end Go.Proofs.YtmckbcbdnckngaaGreatDoor

namespace Go.Proofs.YtmckbcbdnckngaaGreatDoor
open Go.RowKit

theorem OrgP.keeps {w w' : World} {p : Nat} {S R Q : Nat → Prop} {o : Org} {M : OM} (h : OrgP w p R Q o M) (k : Keeps S w w') (hS : ∀ i, S i → ¬ R i ∧ Q i) : OrgP w' p R Q o M :=
 ⟨h.blk.keep k (fun hs => (hS p hs).1 h.rp), own_keepS h.vs k (fun b hb hs => (hS b hs).1 (h.rv b hb)), own_keepS h.br k (fun b hb hs => (hS b hs).1 (h.rb b hb)), own_keepS h.lg k (fun b hb hs => (hS b hs).1 (h.rl b hb)), h.ver,
  fun x hx => (h.mem x hx).keep k (fun i hi => .inl (hS i hi).2), h.rp, h.rv, h.rb, h.rl, fun b hr => Nat.lt_of_lt_of_le (h.low b hr) k.size, h.rq, h.few, h.bd⟩
theorem sl_inj {s s' : Sl} (h : s.v = s'.v) : s = s' := by
 cases s; cases s'
 simp only [Sl.v, Value.slice.injEq] at h
 obtain ⟨rfl, rfl, rfl⟩ := h
 rfl
theorem OrgP.brd {w : World} {p : Nat} {R Q : Nat → Prop} {o : Org} {M : OM} (h : OrgP w p R Q o M) : Rd w 2 M.br.A M.br.n (o.br.flatMap spnC) ∧ M.br.n = o.br.length := by
 obtain ⟨s, hs, hn, hr⟩ := RS.own h.br
 obtain rfl := sl_inj hs
 exact ⟨hr.rd, hn⟩
section
variable {o : Org} {t : Int} {r : Rq}
def getQ (r : Rq) : Bool := r.method.toList == [71, 69, 84]
def headQ (r : Rq) : Bool := r.method.toList == [72, 69, 65, 68]
theorem dec_503 (h : o.br.any (inSp t) = true) : decS55 o t r = { ans0 with status := 503 } := by
 unfold decS55; rw [if_pos (show (o.br.any fun b => decide (b.1 ≤ t) && decide (t < b.2)) = true from h)]
theorem dec_405 (h : o.br.any (inSp t) = false) (h1 : getQ r = false) (h2 : headQ r = false) : decS55 o t r = { ans0 with status := 405 } := by
 unfold getQ at h1; unfold headQ at h2
 unfold decS55; rw [if_neg (by rw [show (o.br.any fun b => decide (b.1 ≤ t) && decide (t < b.2)) = false from h]; simp), if_pos (by simp [h1, h2])]
theorem dec_go (h : o.br.any (inSp t) = false) (h1 : getQ r = true ∨ headQ r = true) : decS55 o t r = match allS r.fs x_ho with
  | [h] => match adPS h r.target with
   | none => { ans0 with status := 400 }
   | some a =>
    let text := ofL (adText a)
    let n := findS o.vs text t
    match o.vs[n - 1]? with
    | some p => if n = 0 then { ans0 with status := 404, addr := text, fs := brief } else verS { ans0 with addr := text, version := n } p.2 r
    | none => { ans0 with status := 404, addr := text, fs := brief }
  | _ => { ans0 with status := 400 } := by
 unfold getQ headQ at h1
 unfold decS55
 rw [if_neg (by rw [show (o.br.any fun b => decide (b.1 ≤ t) && decide (t < b.2)) = false from h]; simp), if_neg (by rcases h1 with h1 | h1 <;> simp [h1])]
 try rfl
theorem dec_400a (h : o.br.any (inSp t) = false) (h1 : getQ r = true ∨ headQ r = true) (h2 : (allS r.fs x_ho).length ≠ 1) : decS55 o t r = { ans0 with status := 400 } := by
 rw [dec_go h h1]
 split
 ·rename_i x hx; rw [hx] at h2; simp at h2
 ·rfl
variable {hv : ByteArray}
theorem dec_400b (h : o.br.any (inSp t) = false) (h1 : getQ r = true ∨ headQ r = true) (h2 : allS r.fs x_ho = [hv]) (h3 : adP (bsL hv) (bsL r.target) = none) : decS55 o t r = { ans0 with status := 400 } := by
 rw [dec_go h h1, h2]; simp only
 rw [show adPS hv r.target = none from h3]
theorem dec_404 {a : Adr} (h : o.br.any (inSp t) = false) (h1 : getQ r = true ∨ headQ r = true) (h2 : allS r.fs x_ho = [hv]) (h3 : adP (bsL hv) (bsL r.target) = some a) (h4 : findS o.vs ⟨(adText a).toArray⟩ t = 0) :
  decS55 o t r = { ans0 with status := 404, addr := ⟨(adText a).toArray⟩, fs := brief } := by
 rw [dec_go h h1, h2]; simp only
 rw [show adPS hv r.target = some a from h3]; simp only
 rw [show findS o.vs (ofL (adText a)) t = 0 from h4]
 split
 ·rw [if_pos rfl]; rfl
 ·rfl
theorem dec_ver {a : Adr} {k : Nat} (h : o.br.any (inSp t) = false) (h1 : getQ r = true ∨ headQ r = true) (h2 : allS r.fs x_ho = [hv]) (h3 : adP (bsL hv) (bsL r.target) = some a) (h4 : findS o.vs ⟨(adText a).toArray⟩ t = k + 1) (hk : k < o.vs.length) :
  decS55 o t r = verS { ans0 with addr := ⟨(adText a).toArray⟩, version := (k : Int) + 1 } o.vs[k].2 r := by
 rw [dec_go h h1, h2]; simp only
 rw [show adPS hv r.target = some a from h3]; simp only
 rw [show findS o.vs (ofL (adText a)) t = k + 1 from h4, Nat.add_sub_cancel, List.getElem?_eq_getElem hk]
 simp only
 rw [if_neg (by omega)]; rfl
end
theorem fnd_le : ∀ (l : List (Int × Ver)) (text : ByteArray) (t : Int), findS l text t ≤ l.length
 | [], _, _ => Nat.le_refl _
 | p :: l, text, t => by
  have := fnd_le l text t
  show (if findS l text t = 0 then (if p.2.addr == text && decide (p.1 ≤ t) then 1 else 0) else findS l text t + 1) ≤ l.length + 1
  split
  ·split <;> omega
  ·omega
theorem AnsAt.putA {W : World} {pa : Nat} {t : Int} {a : Ans} {fs bd : Sl} (h : AnsAt W pa t a fs bd) (x : ByteArray) :
  AnsAt (W.setCell ⟨pa, 4, none⟩ (.string x)) pa t { a with addr := x } fs bd ∧ Keeps (fun i => i = pa) W (W.setCell ⟨pa, 4, none⟩ (.string x)) := by
 have hK := (Keeps.refl (fun i => i = pa) W).set_ (b := pa) rfl 4 (.string x)
 exact ⟨⟨h.blk.set_ 4 _, h.fs.keep hK (fun i hi => .inl hi), h.bd.keep hK (fun i hi => .inl hi)⟩, hK⟩
theorem AnsAt.putN {W : World} {pa : Nat} {t : Int} {a : Ans} {fs bd : Sl} (h : AnsAt W pa t a fs bd) (n : Int) :
  AnsAt (W.setCell ⟨pa, 2, none⟩ (.int .i64 n)) pa t { a with version := n } fs bd ∧ Keeps (fun i => i = pa) W (W.setCell ⟨pa, 2, none⟩ (.int .i64 n)) := by
 have hK := (Keeps.refl (fun i => i = pa) W).set_ (b := pa) rfl 2 (.int .i64 n)
 exact ⟨⟨h.blk.set_ 2 _, h.fs.keep hK (fun i hi => .inl hi), h.bd.keep hK (fun i hi => .inl hi)⟩, hK⟩
theorem AnsAt.putF {W : World} {pa : Nat} {t : Int} {a : Ans} {fs bd fs' : Sl} {F : List Fd} (h : AnsAt W pa t a fs bd) (hf : RS (fun i => i = pa) W 2 fs' (fldCells F)) (st : Int) :
  AnsAt ((W.setCell ⟨pa, 1, none⟩ (.int .i64 st)).setCell ⟨pa, 7, none⟩ fs'.v) pa t { a with status := st, fs := F } fs' bd ∧ Keeps (fun i => i = pa) W ((W.setCell ⟨pa, 1, none⟩ (.int .i64 st)).setCell ⟨pa, 7, none⟩ fs'.v) := by
 have hK := ((Keeps.refl (fun i => i = pa) W).set_ (b := pa) rfl 1 (.int .i64 st)).set_ (b := pa) rfl 7 fs'.v
 exact ⟨⟨(h.blk.set_ 1 _).set_ 7 _, hf.keep hK (fun i hi => .inl hi), h.bd.keep hK (fun i hi => .inl hi)⟩, hK⟩

theorem or_choose (Q R : Nat → Prop) (p : Nat) (o : Org) (M : OM) (pa : Nat) (t : Int) (r : Rq) (rA : Option Addr) (rn rc : Nat) (w : World) (hO : OrgP w p R Q o M) (hA : AnsAt w pa t ans0 sl0 sl0) (hpR : ¬ R pa) (hpQ : Q pa)
  (hr : RS (fun i => i = pa) w 2 ⟨rA, rn, rc⟩ (fldCells r.fs)) (hrT : sumF r.fs + 2 * rn ≤ 1048576) (htz : r.target.size ≤ 1048576) (hbr : o.br.length ≤ 1000000)
  (hgp : ∀ w', Keeps (fun i => i = pa) w w' → Gl w' ∧ GlH w' ∧ GlP w') :
  Calls Tryz.prog 44 #[.pointer (some ⟨p, 0, none⟩), .pointer (some ⟨pa, 0, none⟩), .agg #[.string r.method, .string r.target, .slice rA rn rc]] w fun e w' => ∃ v, e = .returned v ∧
   (∃ fs' bd', AnsAt w' pa t (decS55 o t r) fs' bd') ∧ Keeps (fun i => i = pa) w w' := by
 have hS : ∀ i, i = pa → ¬ R i ∧ Q i := fun i hi => by rw [hi]; exact ⟨hpR, hpQ⟩
 have HO := zi (fun w' (hx : Keeps (fun i => i = pa) w w') => hO.keeps hx hS)
 have hbz := bszF r.fs
 have hbz2 : Bsz 1048576 r.fs := fun f hf => ⟨by have := (hbz f hf).1; omega, by have := (hbz f hf).2; omega⟩
 have HRx := zi (fun w' (hx : Keeps (fun i => i = pa) w w') => hr.keep hx (fun i hi => .inl hi))
 have HAll := zi (fun w' (hx : Keeps (fun i => i = pa) w w') => field_All rA rn rc r.fs x_ho w' (hr.keep hx (fun i hi => .inl hi)).rd (by omega) (by decide) (fun f hf => by have := (hbz2 f hf).1; omega))
 have Hlen := zi (fun v (hv : v ∈ allS r.fs x_ho) => show v.size ≤ 1048576 from by
  unfold allS at hv
  obtain ⟨f, hf, rfl⟩ := List.mem_map.1 hv
  exact (hbz2 f (List.mem_filter.1 hf).1).2)
 have HPr := zi (fun w' hv (hx : Keeps (fun i => i = pa) w w') (hz : hv.size ≤ 1048576) => adr_Parse hv r.target w' hz htz (hgp _ hx).1)
 have HFm := zi (fun w' a hok h1 h2 (hx : Keeps (fun i => i = pa) w w') => adr_Format a w' hok h1 h2 (hgp _ hx).1)
 have HFd := zi (fun w' text (hx : Keeps (fun i => i = pa) w w') => or_find Q R p o M text t w' (hO.keeps hx hS))
 have HAn := zi (fun w' B (hx : Keeps (fun i => i = pa) w w') (hB : w'.cell? ⟨B, 0, none⟩ = some (.int .i64 t)) => spI_any M.br.A M.br.n M.br.c o.br (inSp t) B w' (hO.keeps hx hS).brd.1 (by have := hO.brd.2; omega) (fun x _ W hW => or_choose1 x t B W (hW.cell hB)))
 have HVe := zi (fun w' a' fs' bd' (m : MV) (h1 : AnsAt w' pa t a' fs' bd') (h2 : m.At Q w') (h3 : VerB m.ver) (hx : Keeps (fun i => i = pa) w w') => or_version Q pa t a' fs' bd' m r rA rn rc w' h1 h2 hpQ h3 (hr.keep hx (fun i hi => .inl hi)) hrT (hgp _ hx).1 (hgp _ hx).2.1 (hgp _ hx).2.2 (fun w2 hy => hgp _ (hx.trans hy)))
 have D503 := zi (@dec_503 o t r); have D405 := zi (@dec_405 o t r); have D400a := zi (@dec_400a o t r); have D400b := zi (fun hv => @dec_400b o t r hv); have D404 := zi (fun hv a => @dec_404 o t r hv a); have Dver := zi (fun hv a k => @dec_ver o t r hv a k)
 obtain ⟨DA, hDA⟩ : ∃ DA, decS55 o t r = DA := ⟨_, rfl⟩
 rw [hDA] at D503 D405 D400a D400b D404 Dver ⊢
 have HA := zi hA
 have hplt := hA.blk.lt
 have Hbd := zi hO.bd
 have HN := zi hO.vsn
 have Hfl := zi (fun text => fnd_le o.vs text t)
 have hfew := hO.few
 generalize o.br.any (inSp t) = an at *
 obtain ⟨me, ta, rfs⟩ := r
 unfold getQ headQ at D405 D400a D400b D404 Dver
 obtain ⟨⟨vsA, vsn, vsc⟩, ⟨brA, brn, brc⟩, lg, mv⟩ := M
 have HP := zi (fun w' (hx : Keeps (fun i => i = pa) w w') => (⟨(HO.out _ hx).blk.cell 0, (HO.out _ hx).blk.cell 1⟩ : w'.cell? ⟨p, 0, none⟩ = some (.slice vsA vsn vsc) ∧ w'.cell? ⟨p, 1, none⟩ = some (.slice brA brn brc)))
 clear hDA hO hA hr hbz hbz2 hgp hS
 simp only [Sl.v] at *
 have HX := zi ((Blk.new w 42 #[.string me, .string ta, .slice rA rn rc]).alloc (.cells #[.int .i64 t] 3))
 have HY := zi (Blk.new (w.alloc (.cells #[.string me, .string ta, .slice rA rn rc] 42)) 3 #[.int .i64 t])
 have hsz1 : (w.alloc (.cells #[.string me, .string ta, .slice rA rn rc] 42)).heap.size = w.heap.size + 1 := by simp
 rw [hsz1] at HY
 have HKb := zi (Keeps.of (S := fun i => i = pa) (((Ext.refl w).alloc (.cells #[.string me, .string ta, .slice rA rn rc] 42)).alloc (.cells #[.int .i64 t] 3)))
 have a0 : w.cell? ⟨pa, 0, none⟩ = some (.int .i64 t) := HA.out.blk.cell 0
 go_enter Tryz.func44, Tryz.ntmps44
 go_upto_region 2 with fail
 (try rw [hsz1])
 clear a0 hsz1
 have HEb := zi (((Ext.refl w).alloc (.cells #[.string me, .string ta, .slice rA rn rc] 42)).alloc (.cells #[.int .i64 t] 3))
 generalize ((w.alloc (.cells #[.string me, .string ta, .slice rA rn rc] 42)).alloc (.cells #[.int .i64 t] 3)) = Wb at *
 have HS := zi (fun w' (hx : Keeps (fun i => i = pa) Wb w') => (⟨(HX.out.keep hx (by omega)).cell 0, (HX.out.keep hx (by omega)).cell 1, (HX.out.keep hx (by omega)).cell 2, (HY.out.keep hx (by omega)).cell 0⟩ : w'.cell? ⟨w.heap.size, 0, none⟩ = some (.string me) ∧ w'.cell? ⟨w.heap.size, 1, none⟩ = some (.string ta) ∧ w'.cell? ⟨w.heap.size, 2, none⟩ = some (.slice rA rn rc) ∧ w'.cell? ⟨w.heap.size + 1, 0, none⟩ = some (.int .i64 t)))
 obtain ⟨p0, p1⟩ := HP.out _ HKb.out
 go_wp2_with fail
 refine (HAn.out _ (w.heap.size + 1) HKb.out (HS.out _ (Keeps.refl _ _)).2.2.2).mono ?_; rintro e w1 ⟨rfl, hb1⟩
 clear p0 p1
 have HE1 := zi (HEb.out.trans hb1)
 have K1 := zi (Keeps.of (S := fun i => i = pa) HE1.out); have Kb1 := zi (Keeps.of (S := fun i => i = pa) hb1)
 have HA1 := zi (HA.out.ext HE1.out)
 cases an with
 | true =>
  have k1 : w1.cell? ⟨pa, 1, none⟩ = some (.int .i64 0) := HA1.out.blk.cell 1
  have f1 : w1.frozen? ⟨pa, 1, none⟩ = false := HA1.out.blk.frozen 1
  have HZ := zi (HA1.out.putS 503)
  go_wp2_with fail
  (first | go_end0 | ((try simp only [Exit.inBlock, Exit.then]); refine bodyPost_ret (results_none rfl _ _ _) rfl ?_))
  first | exact ⟨_, rfl, ⟨sl0, sl0, by rw [D503.out (by trivial)]; exact HZ.out.1⟩, K1.out.trans HZ.out.2⟩ | exact ⟨rfl, ⟨sl0, sl0, by rw [D503.out (by trivial)]; exact HZ.out.1⟩, K1.out.trans HZ.out.2⟩
 | false =>
  go_upto_region 4 with fail
  obtain ⟨x0, x1, x2, y0⟩ := HS.out _ Kb1.out
  go_cut [34] (fun x wx => x = .bool (!(me.toList == [71, 69, 84]) && !(me.toList == [72, 69, 65, 68])) ∧ w1 = wx)
  case first =>
   cases q1 : (me.toList == [71, 69, 84])
   ·cases q2 : (me.toList == [72, 69, 65, 68])
    ·go_wp2_with fail
     go_meet
     exact ⟨by simp [q1, q2], rfl⟩
    ·go_wp2_with fail
     go_meet
     exact ⟨by simp [q1, q2], rfl⟩
   ·go_wp2_with fail
    go_meet
    exact ⟨by simp [q1], rfl⟩
  case rest =>
  obtain ⟨rfl, rfl⟩ := hcut
  by_cases hgh : (me.toList == [71, 69, 84]) = true ∨ (me.toList == [72, 69, 65, 68]) = true
  rotate_left
  ·have q1 : (me.toList == [71, 69, 84]) = false := by cases h : (me.toList == [71, 69, 84]) with | false => rfl | true => exact absurd (.inl h) hgh
   have q2 : (me.toList == [72, 69, 65, 68]) = false := by cases h : (me.toList == [72, 69, 65, 68]) with | false => rfl | true => exact absurd (.inr h) hgh
   rw [q1, q2]
   clear x0 x1 x2 y0
   have k1 : w1.cell? ⟨pa, 1, none⟩ = some (.int .i64 0) := HA1.out.blk.cell 1
   have f1 : w1.frozen? ⟨pa, 1, none⟩ = false := HA1.out.blk.frozen 1
   have HZ := zi (HA1.out.putS 405)
   go_wp2_with fail
   (first | go_end0 | ((try simp only [Exit.inBlock, Exit.then]); refine bodyPost_ret (results_none rfl _ _ _) rfl ?_))
   first | exact ⟨_, rfl, ⟨sl0, sl0, by rw [D405.out (by trivial) q1 q2]; exact HZ.out.1⟩, K1.out.trans HZ.out.2⟩ | exact ⟨rfl, ⟨sl0, sl0, by rw [D405.out (by trivial) q1 q2]; exact HZ.out.1⟩, K1.out.trans HZ.out.2⟩
  have hg0 : (!(me.toList == [71, 69, 84]) && !(me.toList == [72, 69, 65, 68])) = false := by rcases hgh with h | h <;> simp [h]
  rw [hg0]
  have D400a := zi (D400a.out (by trivial) hgh); have D400b := zi (fun hv => D400b.out hv (by trivial) hgh); have D404 := zi (fun hv a => D404.out hv a (by trivial) hgh); have Dver := zi (fun hv a k => Dver.out hv a k (by trivial) hgh)
  clear hg0 hgh
  go_wp2_with fail
  refine (HAll.out _ K1.out).mono ?_; rintro e w2 ⟨lA, ln, lc, rfl, hls, hlc, hb2⟩
  clear x0 x1 x2 y0
  have HE2 := zi (HE1.out.trans hb2); have K2 := zi (Keeps.of (S := fun i => i = pa) HE2.out); have Kb2 := zi (Kb1.out.trans (Keeps.of hb2)); have HA2 := zi (HA.out.ext HE2.out)
  have hll := hls.lenS
  by_cases hl1 : ln = 1
  rotate_left
  ·have hq1 : ((ln : Int) == 1) = false := by rw [beq_eq_false_iff_ne]; omega
   have k1 : w2.cell? ⟨pa, 1, none⟩ = some (.int .i64 0) := HA2.out.blk.cell 1
   have f1 : w2.frozen? ⟨pa, 1, none⟩ = false := HA2.out.blk.frozen 1
   have HZ := zi (HA2.out.putS 400)
   go_wp2_with fail
   (first | go_end0 | ((try simp only [Exit.inBlock, Exit.then]); refine bodyPost_ret (results_none rfl _ _ _) rfl ?_))
   first | exact ⟨_, rfl, ⟨sl0, sl0, by rw [D400a.out (by (try simp only at hll ⊢); omega)]; exact HZ.out.1⟩, K2.out.trans HZ.out.2⟩ | exact ⟨rfl, ⟨sl0, sl0, by rw [D400a.out (by (try simp only at hll ⊢); omega)]; exact HZ.out.1⟩, K2.out.trans HZ.out.2⟩
  subst hl1
  obtain ⟨hv, hhv⟩ : ∃ hv, allS rfs x_ho = [hv] := by
   match hm : allS rfs x_ho, hll with
   | [v], _ => exact ⟨v, rfl⟩
  have Hv := zi hhv
  have hvz := Hlen.out hv (by rw [Hv.out]; simp)
  rw [Hv.out] at hls
  obtain ⟨lb, lo, hlA, d0⟩ := hls.atS (k := 0) (by simp)
  subst hlA
  rw [Nat.add_zero] at d0
  replace d0 : w2.cell? ⟨lb, lo, none⟩ = some (.string hv) := d0
  have HD := zi (fun w' (hx : Ext w2 w') => hx.cell d0)
  have D400b := zi (D400b.out hv Hv.out); have D404 := zi (fun a => D404.out hv a Hv.out); have Dver := zi (fun a k => Dver.out hv a k Hv.out)
  have HPr := zi (fun w' (hx : Keeps (fun i => i = pa) w w') => HPr.out w' hv hx hvz)
  have Hsz := zi (fun a h => @ad_sizes (bsL hv) (bsL ta) a h); have Hag := zi (fun a (h : adP (bsL hv) (bsL ta) = some a) => ad_again h)
  (try simp only at D400b D404 Dver HPr)
  generalize hP : adP (bsL hv) (bsL ta) = P at *
  clear hP
  obtain ⟨q1, q2, q3, q4, hq⟩ : ∃ q1 q2 q3 q4, adrA P = #[.string q1, .string q2, .string q3, .bool q4] := by
   cases P with
   | none => exact ⟨_, _, _, _, rfl⟩
   | some a => exact ⟨_, _, _, _, rfl⟩
  rw [hq] at HPr
  have Hq := zi hq
  clear hq d0 hls hll hhv hvz
  go_wp2_with fail
  have hE := (Ext.refl w2).drew
  refine wp_region_U (S := (fun w' => w'.cell? ⟨lb, lo, none⟩ = some (.string hv) ∧ w'.cell? ⟨w.heap.size, 1, none⟩ = some (.string ta))) 10 (by kernel_rfl) ?_ (fun hHeld => ?_)
  ·(try dsimp only); exact ⟨HD.out _ hE, (HS.out _ (Kb2.out.trans (Keeps.of hE))).2.1⟩
  refine wpAnyU_takeW (i := 0) (oi := ⟨some 50, _, _, _, _, _⟩) (v := ?_) (by kernel_rfl) rfl (by kernel_rfl) (by kernel_rfl) (by kernel_rfl) (fun _ _ _ h => h) (Or.inl ⟨by rfl, ?_⟩) (by assumption) ?_
  rotate_left
  ·(intro w hSw; (try dsimp only at hSw); go_simp; (try with_reducible rfl))
  try simp only [zP]
  refine wpAnyU_takeW (i := 1) (oi := ⟨some 51, _, _, _, _, _⟩) (v := ?_) (by kernel_rfl) rfl (by kernel_rfl) (by kernel_rfl) (by kernel_rfl) (fun _ _ _ h => h) (Or.inl ⟨by rfl, ?_⟩) (by assumption) ?_
  rotate_left
  ·(intro w hSw; (try dsimp only at hSw); go_simp; (try with_reducible rfl))
  try simp only [zP]
  refine wpAnyU_take (i := 2) (oi := ⟨some 52, _, _, _, _, _⟩) (v := ?_) [5, 6, 7, 8, 10, 11] (by kernel_rfl) (by kernel_rfl) (by kernel_rfl) (by kernel_rfl) rfl (by kernel_rfl) (by kernel_rfl) (by kernel_rfl) (fun _ _ _ h => h) (Or.inl ⟨by rfl, ?_⟩) (by assumption) ?_
  rotate_left
  ·(intro w hSw; (try dsimp only at hSw); go_simp; (try with_reducible rfl))
  try simp only [zP]
  refine wpAnyU_takeW (i := 3) (oi := ⟨some 53, _, _, _, _, _⟩) (v := ?_) (by kernel_rfl) rfl (by kernel_rfl) (by kernel_rfl) (by kernel_rfl) (fun _ _ _ h => h) (Or.inl ⟨by rfl, ?_⟩) (by assumption) ?_
  rotate_left
  ·(intro w hSw; (try dsimp only at hSw); go_simp; (try with_reducible rfl))
  try simp only [zP]
  refine wpAnyU_take (i := 4) (oi := ⟨some 54, _, _, _, _, _⟩) (v := ?_) [5, 6, 7, 8, 10, 11] (by kernel_rfl) (by kernel_rfl) (by kernel_rfl) (by kernel_rfl) rfl (by kernel_rfl) (by kernel_rfl) (by kernel_rfl) (fun _ _ _ h => h) (Or.inl ⟨by rfl, ?_⟩) (by assumption) ?_
  rotate_left
  ·(intro w hSw; (try dsimp only at hSw); go_simp; (try with_reducible rfl))
  try simp only [zP]
  refine wpAnyU_ready (rs := [5, 9]) (by kernel_rfl) (by simp) ?_
  refine AllReadyU.cons (o := ⟨some 55, _, _, _, _, _⟩) rfl (fun K hK => ?_) (AllReadyU.cons (o := ⟨some 8, _, _, _, _, _⟩) rfl (fun K hK => ?_) AllReadyU.nil)
  ·go_simp
   refine (HPr.out _ (Keeps.of (HE2.out.trans hE))).mono ?_; rintro e w3 ⟨⟨n3, rfl, hn3, hi3⟩, hb3⟩; replace hE := hE.trans hb3
   try go_wp2_with fail
   refine hK.out _ _ ?_ (fun hHeld => ?_)
   ·(try dsimp only); exact ⟨HD.out _ hE, (HS.out _ (Kb2.out.trans (Keeps.of hE))).2.1⟩
   clear hK K
   try simp only [zP]
   refine wpAnyU_takeW (i := 6) (oi := ⟨some 49, _, _, _, _, _⟩) (v := ?_) (by kernel_rfl) rfl (by kernel_rfl) (by kernel_rfl) (by kernel_rfl) (fun _ _ _ h => h) (Or.inl ⟨by rfl, ?_⟩) (by assumption) ?_
   rotate_left
   ·(intro w hSw; (try dsimp only at hSw); go_simp; (try with_reducible rfl))
   try simp only [zP]
   refine wpAnyU_takeW (i := 7) (oi := ⟨some 56, _, _, _, _, _⟩) (v := ?_) (by kernel_rfl) rfl (by kernel_rfl) (by kernel_rfl) (by kernel_rfl) (fun _ _ _ h => h) (Or.inl ⟨by rfl, ?_⟩) (by assumption) ?_
   rotate_left
   ·(intro w hSw; (try dsimp only at hSw); go_simp; (try with_reducible rfl))
   try simp only [zP]
   refine wpAnyU_takeW (i := 8) (oi := ⟨some 57, _, _, _, _, _⟩) (v := ?_) (by kernel_rfl) rfl (by kernel_rfl) (by kernel_rfl) (by kernel_rfl) (fun _ _ _ h => h) (Or.inl ⟨by rfl, ?_⟩) (by assumption) ?_
   rotate_left
   ·(intro w hSw; (try dsimp only at hSw); go_simp; (try with_reducible rfl))
   try simp only [zP]
   refine wpAnyU_ready (rs := [9]) (by kernel_rfl) (by simp) ?_
   refine AllReadyU.cons (o := ⟨some 8, _, _, _, _, _⟩) rfl (fun K hK => ?_) AllReadyU.nil
   go_simp
   try go_wp2_with fail
   refine hK.out _ _ ?_ (fun hHeld => ?_)
   ·(try dsimp only); exact ⟨HD.out _ (hE.alloc _), (HS.out _ (Kb2.out.trans (Keeps.of (hE.alloc _)))).2.1⟩
   clear hK K
   try simp only [zP]
   refine wpAnyU_ready (rs := [10]) (by kernel_rfl) (by simp) ?_
   refine AllReadyU.stop (o := ⟨none, _, _, _, _, _⟩) rfl (by kernel_rfl) (fun K hK => ?_) AllReadyU.nil
   go_simp
   try go_wp2_with fail
   refine hK.out _ _ ?_ (fun hHeld => ?_)
   ·(try dsimp only); (try trivial)
   clear hK K
   try simp only [zP]
   refine zH (v := ?_) 11 (some 9) rfl ?_ ?_; rotate_left
   ·(intro w hSw; (try dsimp only at hSw); go_simp; (try with_reducible rfl))
   try simp only [zP]
   refine wpAnyH_done (by kernel_rfl) ?_ _
   have HX4 := zi (Blk.new w3 123 #[.string q1, .string q2, .string q3, .bool q4])
   replace hE := hE.alloc (.cells #[.string q1, .string q2, .string q3, .bool q4] 123)
   generalize w3.alloc (.cells #[.string q1, .string q2, .string q3, .bool q4] 123) = wx at *
   generalize w3.heap.size = bx at *
   have HEx := zi (HE2.out.trans hE); have Kx := zi (Keeps.of (S := fun i => i = pa) HEx.out); have Kbx := zi (Kb2.out.trans (Keeps.of hE)); have HAx := zi (HA.out.ext HEx.out)
   rcases errV_eq0 n3 with ⟨h0, h1⟩ | ⟨h0, h1⟩
   rotate_left
   ·rw [h1]
    have hPn : P = none := by cases P with | none => rfl | some a => exact absurd (hi3.2 rfl) h0
    have k1 : wx.cell? ⟨pa, 1, none⟩ = some (.int .i64 0) := HAx.out.blk.cell 1
    have f1 : wx.frozen? ⟨pa, 1, none⟩ = false := HAx.out.blk.frozen 1
    have HZ := zi (HAx.out.putS 400)
    go_wp2_with fail
    (first | go_end0 | ((try simp only [Exit.inBlock, Exit.then]); refine bodyPost_ret (results_none rfl _ _ _) rfl ?_))
    first | exact ⟨_, rfl, ⟨sl0, sl0, by rw [D400b.out hPn]; exact HZ.out.1⟩, Kx.out.trans HZ.out.2⟩ | exact ⟨rfl, ⟨sl0, sl0, by rw [D400b.out hPn]; exact HZ.out.1⟩, Kx.out.trans HZ.out.2⟩
   ·rw [h1]
    obtain ⟨a, ha⟩ := Option.isSome_iff_exists.1 (hi3.1 h0)
    obtain ⟨e1, e2, e3, e4⟩ := adr_q (ha ▸ Hq.out)
    have hs4 := Hsz.out a ha
    have hok := Hag.out a ha
    subst e1; subst e2; subst e3; subst e4
    have hXq := HX4.out
    have u0 : wx.cell? ⟨bx, 0, none⟩ = some (.string ⟨a.host.toArray⟩) := hXq.cell 0
    have u1 : wx.cell? ⟨bx, 1, none⟩ = some (.string ⟨a.path.toArray⟩) := hXq.cell 1
    have u2 : wx.cell? ⟨bx, 2, none⟩ = some (.string ⟨a.query.toArray⟩) := hXq.cell 2
    have u3 : wx.cell? ⟨bx, 3, none⟩ = some (.bool a.has) := hXq.cell 3
    clear hXq
    have HFm := zi (HFm.out wx a hok (by omega) (by omega) Kx.out)
    have D404 := zi (D404.out a ha); have Dver := zi (fun k => Dver.out a k ha)
    generalize (⟨(adText a).toArray⟩ : ByteArray) = T at *
    clear hok hs4
    go_wp2_with fail
    refine HFm.out.mono ?_; rintro e w5 ⟨rfl, hb5⟩
    clear u0 u1 u2 u3
    have HA5 := zi (HAx.out.ext hb5)
    have k4 : w5.cell? ⟨pa, 4, none⟩ = some (.string ⟨#[]⟩) := HA5.out.blk.cell 4
    have f4 : w5.frozen? ⟨pa, 4, none⟩ = false := HA5.out.blk.frozen 4
    have HZ4 := zi (HA5.out.putA T)
    go_upto_region 16 with fail
    have K6 := zi ((Kx.out.trans (Keeps.of hb5)).trans HZ4.out.2); have Kb6 := zi ((Kbx.out.trans (Keeps.of hb5)).trans HZ4.out.2); have HA6 := zi HZ4.out.1
    clear k4 f4 HZ4 HA5
    generalize (w5.setCell ⟨pa, 4, none⟩ (.string T)) = w6 at *
    obtain ⟨x0, x1, x2, y0⟩ := HS.out _ Kb6.out
    go_wp2_with fail
    refine (HFd.out _ T K6.out).mono ?_; rintro e w7 ⟨rfl, hb7⟩
    clear x0 x1 x2 y0
    have hfl := Hfl.out T
    have K7 := zi (K6.out.trans (Keeps.of hb7)); have Kb7 := zi (Kb6.out.trans (Keeps.of hb7)); have HA7 := zi (HA6.out.ext hb7)
    generalize findS o.vs T t = fn at *
    cases fn with
    | zero =>
     have DD := zi (D404.out (by trivial))
     go_wp2_with fail
     refine (or_brief _).mono ?_; rintro e w8 ⟨⟨bA2, bn2, bc2⟩, rfl, hbn8, hbr8, hb8⟩
     change bn2 = 1 at hbn8
     subst hbn8
     have HA8 := zi (HA7.out.ext hb8)
     have hpw : pa < w7.heap.size := HA7.out.blk.lt
     have HZ := zi (HA8.out.putF (hbr8.sub (Q' := fun i => i = pa) (fun i hi => by rw [show i = pa from hi]; exact hpw)) 404)
     simp only [Sl.v] at HZ ⊢
     have k1 : w8.cell? ⟨pa, 1, none⟩ = some (.int .i64 0) := HA8.out.blk.cell 1
     have f1 : w8.frozen? ⟨pa, 1, none⟩ = false := HA8.out.blk.frozen 1
     have k7 : w8.cell? ⟨pa, 7, none⟩ = some (.slice none 0 0) := HA8.out.blk.cell 7
     have f7 : w8.frozen? ⟨pa, 7, none⟩ = false := HA8.out.blk.frozen 7
     go_wp2_with fail
     (first | go_end0 | ((try simp only [Exit.inBlock, Exit.then]); refine bodyPost_ret (results_none rfl _ _ _) rfl ?_))
     first | exact ⟨_, rfl, ⟨_, _, by rw [DD.out]; exact HZ.out.1⟩, (K7.out.trans (Keeps.of hb8)).trans HZ.out.2⟩ | exact ⟨rfl, ⟨_, _, by rw [DD.out]; exact HZ.out.1⟩, (K7.out.trans (Keeps.of hb8)).trans HZ.out.2⟩
    | succ k =>
     have hkv : k < o.vs.length := by omega
     have DD := zi (Dver.out k (by trivial) hkv)
     have hk0 : ((((k + 1 : Nat) : Int)) == 0) = false := by rw [beq_eq_false_iff_ne]; omega
     have hk00 : (((k : Int) + 1) == 0) = false := by rw [beq_eq_false_iff_ne]; omega
     have k2 : w7.cell? ⟨pa, 2, none⟩ = some (.int .i64 0) := HA7.out.blk.cell 2
     have f2 : w7.frozen? ⟨pa, 2, none⟩ = false := HA7.out.blk.frozen 2
     have HZ := zi (HA7.out.putN ((k : Int) + 1))
     go_upto_region 20 with fail
     have K9 := zi (K7.out.trans HZ.out.2); have Kb9 := zi (Kb7.out.trans HZ.out.2); have HA9 := zi HZ.out.1
     clear k2 f2 HZ
     generalize (w7.setCell ⟨pa, 2, none⟩ (.int .i64 ((k : Int) + 1))) = w9 at *
     have hkm : k < mv.length := by have h1 : mv.length = o.vs.length := HN.out.2; omega
     have hvn : vsn = o.vs.length := HN.out.1
     obtain ⟨g, hA, c0, c1, c2, c3, c4, c5⟩ := (HO.out _ K9.out).at_ hkm
     have hvk := (HO.out _ K9.out).vs_at hkv hkm
     have hmem := (HO.out _ K9.out).mem _ (List.getElem_mem hkm)
     have hbd := (Hbd.out _ (List.getElem_mem hkv)).1
     rw [hvk] at hbd DD
     (try simp only at hA hbd DD c0 c1 c2 c3 c4 c5)
     subst hA
     generalize mv[k] = x at *
     obtain ⟨at_, vaddr, vstatus, f, vbody, vars, ⟨vfA, vfn, vfc⟩, ⟨vbA, vbn, vbc⟩, ⟨vA, vn, vc⟩⟩ := x
     simp only [Sl.v] at c0 c1 c2 c3 c4 c5 hmem hbd DD
     have HS20 := zi (fun w' (hx : Ext w9 w') => (⟨(HP.out _ (K9.out.trans (Keeps.of hx))).1, hx.cell c1, hx.cell c2, hx.cell c3, hx.cell c4, hx.cell c5, (HS.out _ (Kb9.out.trans (Keeps.of hx))).1, (HS.out _ (Kb9.out.trans (Keeps.of hx))).2.1, (HS.out _ (Kb9.out.trans (Keeps.of hx))).2.2.1⟩ : w'.cell? ⟨p, 0, none⟩ = some (.slice (some ⟨g, 0, none⟩) vsn vsc) ∧ w'.cell? ⟨g, k * 6 + 1, none⟩ = some (.string vaddr) ∧ w'.cell? ⟨g, k * 6 + 2, none⟩ = some (.int .i64 vstatus) ∧ w'.cell? ⟨g, k * 6 + 3, none⟩ = some (.slice vfA vfn vfc) ∧ w'.cell? ⟨g, k * 6 + 4, none⟩ = some (.slice vbA vbn vbc) ∧ w'.cell? ⟨g, k * 6 + 5, none⟩ = some (.slice vA vn vc) ∧ w'.cell? ⟨w.heap.size, 0, none⟩ = some (.string me) ∧ w'.cell? ⟨w.heap.size, 1, none⟩ = some (.string ta) ∧ w'.cell? ⟨w.heap.size, 2, none⟩ = some (.slice rA rn rc)))
     have HC20 := zi (fun w' (hx : Ext w9 w') => HVe.out w' _ _ _ ⟨vaddr, vstatus, f, vbody, vars, ⟨vfA, vfn, vfc⟩, ⟨vbA, vbn, vbc⟩, ⟨vA, vn, vc⟩⟩ (HA9.out.ext hx) (hmem.ext hx) hbd (K9.out.trans (Keeps.of hx)))
     clear c0 c1 c2 c3 c4 c5 hvk hmem hbd
     simp only [MV.cells, Sl.v] at HC20
     have hwm : IntKind.i64.wrap (((k + 1 : Nat) : Int) - 1) = (k : Int) := by rw [IntWalk.i64_in _ (by omega)]; omega
     have hwk : IntKind.i64.wrap (k : Int) = (k : Int) := IntWalk.i64_in _ (by omega)
     have hwl : IntKind.i64.wrap ((k : Int) + 1 - 1) = (k : Int) := by rw [IntWalk.i64_in _ (by omega)]; omega
     have hkn : (k : Int) < (vsn : Int) := by omega
     have hL := (Ext.refl w9).drew
     refine wp_region_U (S := (fun w' => w'.cell? ⟨p, 0, none⟩ = some (.slice (some ⟨g, 0, none⟩) vsn vsc) ∧ w'.cell? ⟨g, k * 6 + 1, none⟩ = some (.string vaddr) ∧ w'.cell? ⟨g, k * 6 + 2, none⟩ = some (.int .i64 vstatus) ∧ w'.cell? ⟨g, k * 6 + 3, none⟩ = some (.slice vfA vfn vfc) ∧ w'.cell? ⟨g, k * 6 + 4, none⟩ = some (.slice vbA vbn vbc) ∧ w'.cell? ⟨g, k * 6 + 5, none⟩ = some (.slice vA vn vc) ∧ w'.cell? ⟨w.heap.size, 0, none⟩ = some (.string me) ∧ w'.cell? ⟨w.heap.size, 1, none⟩ = some (.string ta) ∧ w'.cell? ⟨w.heap.size, 2, none⟩ = some (.slice rA rn rc))) 11 (by kernel_rfl) ?_ (fun hHeld => ?_)
     ·(try dsimp only); exact HS20.out _ hL
     refine wpAnyU_takeW (i := 0) (oi := ⟨some 99, _, _, _, _, _⟩) (v := ?_) (by kernel_rfl) rfl (by kernel_rfl) (by kernel_rfl) (by kernel_rfl) (fun _ _ _ h => h) (Or.inl ⟨by rfl, ?_⟩) (by assumption) ?_
     rotate_left
     ·(intro w hSw; (try dsimp only at hSw); go_simp; (try with_reducible rfl))
     try simp only [zP]
     refine wpAnyU_takeW (i := 1) (oi := ⟨some 100, _, _, _, _, _⟩) (v := ?_) (by kernel_rfl) rfl (by kernel_rfl) (by kernel_rfl) (by kernel_rfl) (fun _ _ _ h => h) (Or.inl ⟨by rfl, ?_⟩) (by assumption) ?_
     rotate_left
     ·(intro w hSw; (try dsimp only at hSw); go_simp; (try with_reducible rfl))
     try simp only [zP]
     refine wpAnyU_takeW (i := 2) (oi := ⟨some 101, _, _, _, _, _⟩) (v := ?_) (by kernel_rfl) rfl (by kernel_rfl) (by kernel_rfl) (by kernel_rfl) (fun _ _ _ h => h) (Or.inl ⟨by rfl, ?_⟩) (by assumption) ?_
     rotate_left
     ·(intro w hSw; (try dsimp only at hSw); go_simp; (try with_reducible rfl))
     try simp only [zP]
     refine wpAnyU_takeW (i := 3) (oi := ⟨some 102, _, _, _, _, _⟩) (v := ?_) (by kernel_rfl) rfl (by kernel_rfl) (by kernel_rfl) (by kernel_rfl) (fun _ _ _ h => h) (Or.inl ⟨by rfl, ?_⟩) (by assumption) ?_
     rotate_left
     ·(intro w hSw; (try dsimp only at hSw); go_simp; (try with_reducible rfl))
     try simp only [zP]
     refine wpAnyU_take (i := 4) (oi := ⟨some 103, _, _, _, _, _⟩) (v := ?_) [7, 8, 9, 11] (by kernel_rfl) (by kernel_rfl) (by kernel_rfl) (by kernel_rfl) rfl (by kernel_rfl) (by kernel_rfl) (by kernel_rfl) (fun _ _ _ h => h) (Or.inl ⟨by rfl, ?_⟩) (by assumption) ?_
     rotate_left
     ·(intro w hSw; (try dsimp only at hSw); go_simp; (try with_reducible rfl))
     try simp only [zP]
     refine wpAnyU_takeW (i := 5) (oi := ⟨some 104, _, _, _, _, _⟩) (v := ?_) (by kernel_rfl) rfl (by kernel_rfl) (by kernel_rfl) (by kernel_rfl) (fun _ _ _ h => h) (Or.inl ⟨by rfl, ?_⟩) (by assumption) ?_
     rotate_left
     ·(intro w hSw; (try dsimp only at hSw); go_simp; (try with_reducible rfl))
     try simp only [zP]
     refine wpAnyU_takeW (i := 6) (oi := ⟨some 105, _, _, _, _, _⟩) (v := ?_) (by kernel_rfl) rfl (by kernel_rfl) (by kernel_rfl) (by kernel_rfl) (fun _ _ _ h => h) (Or.inl ⟨by rfl, ?_⟩) (by assumption) ?_
     rotate_left
     ·(intro w hSw; (try dsimp only at hSw); go_simp; (try with_reducible rfl))
     try simp only [zP]
     refine wpAnyU_takeW (i := 7) (oi := ⟨some 106, _, _, _, _, _⟩) (v := ?_) (by kernel_rfl) rfl (by kernel_rfl) (by kernel_rfl) (by kernel_rfl) (fun _ _ _ h => h) (Or.inl ⟨by rfl, ?_⟩) (by assumption) ?_
     rotate_left
     ·(intro w hSw; (try dsimp only at hSw); go_simp; (try with_reducible rfl))
     try simp only [zP]
     refine wpAnyU_takeW (i := 8) (oi := ⟨some 107, _, _, _, _, _⟩) (v := ?_) (by kernel_rfl) rfl (by kernel_rfl) (by kernel_rfl) (by kernel_rfl) (fun _ _ _ h => h) (Or.inl ⟨by rfl, ?_⟩) (by assumption) ?_
     rotate_left
     ·(intro w hSw; (try dsimp only at hSw); go_simp; (try with_reducible rfl))
     try simp only [zP]
     refine wpAnyU_take (i := 9) (oi := ⟨some 108, _, _, _, _, _⟩) (v := ?_) [11] (by kernel_rfl) (by kernel_rfl) (by kernel_rfl) (by kernel_rfl) rfl (by kernel_rfl) (by kernel_rfl) (by kernel_rfl) (fun _ _ _ h => h) (Or.inl ⟨by rfl, ?_⟩) (by assumption) ?_
     rotate_left
     ·(intro w hSw; (try dsimp only at hSw); go_simp; (try with_reducible rfl))
     try simp only [zP]
     refine wpAnyU_take (i := 10) (oi := ⟨some 109, _, _, _, _, _⟩) (v := ?_) [11] (by kernel_rfl) (by kernel_rfl) (by kernel_rfl) (by kernel_rfl) rfl (by kernel_rfl) (by kernel_rfl) (by kernel_rfl) (fun _ _ _ h => h) (Or.inl ⟨by rfl, ?_⟩) (by assumption) ?_
     rotate_left
     ·(intro w hSw; (try dsimp only at hSw); go_simp; (try with_reducible rfl))
     try simp only [zP]
     refine wpAnyU_ready (rs := [11]) (by kernel_rfl) (by simp) ?_
     refine AllReadyU.stop (o := ⟨some 110, _, _, _, _, _⟩) rfl (by kernel_rfl) (fun K hK => ?_) AllReadyU.nil
     go_simp
     refine (HC20.out _ hL).mono ?_; rintro e w10 ⟨v, rfl, ⟨fs9, bd9, h9⟩, hk9⟩
     try go_wp2_with fail
     refine hK.out _ _ ?_ (fun hHeld => ?_)
     ·(try dsimp only); (try trivial)
     clear hK K
     try simp only [zP]
     refine wpAnyH_done (by kernel_rfl) ?_ _
     go_wp2_with fail
     (first | go_end0 | ((try simp only [Exit.inBlock, Exit.then]); refine bodyPost_ret (results_none rfl _ _ _) rfl ?_))
     first | exact ⟨_, rfl, ⟨fs9, bd9, by rw [DD.out]; exact h9⟩, (K9.out.trans (Keeps.of hL)).trans hk9⟩ | exact ⟨rfl, ⟨fs9, bd9, by rw [DD.out]; exact h9⟩, (K9.out.trans (Keeps.of hL)).trans hk9⟩
  ·go_simp
   try go_wp2_with fail
   refine hK.out _ _ ?_ (fun hHeld => ?_)
   ·(try dsimp only); exact ⟨HD.out _ (hE.alloc _), (HS.out _ (Kb2.out.trans (Keeps.of (hE.alloc _)))).2.1⟩
   clear hK K
   try simp only [zP]
   refine wpAnyU_ready (rs := [5]) (by kernel_rfl) (by simp) ?_
   refine AllReadyU.cons (o := ⟨some 55, _, _, _, _, _⟩) rfl (fun K hK => ?_) AllReadyU.nil
   go_simp
   have HX5 := zi (Blk.new w2.drew 123 #[.string ⟨#[]⟩, .string ⟨#[]⟩, .string ⟨#[]⟩, .bool false]); have hE5 := hE.alloc (.cells #[.string ⟨#[]⟩, .string ⟨#[]⟩, .string ⟨#[]⟩, .bool false] 123); refine (HPr.out _ (Keeps.of (HE2.out.trans hE5))).mono ?_; rintro e w3 ⟨⟨n3, rfl, hn3, hi3⟩, hb3⟩; have HX3 := zi (HX5.out.ext hb3); replace hE := hE5.trans hb3
   try go_wp2_with fail
   refine hK.out _ _ ?_ (fun hHeld => ?_)
   ·(try dsimp only); exact ⟨HD.out _ hE, (HS.out _ (Kb2.out.trans (Keeps.of hE))).2.1⟩
   clear hK K
   try simp only [zP]
   refine wpAnyU_takeW (i := 6) (oi := ⟨some 49, _, _, _, _, _⟩) (v := ?_) (by kernel_rfl) rfl (by kernel_rfl) (by kernel_rfl) (by kernel_rfl) (fun _ _ _ h => h) (Or.inl ⟨by rfl, ?_⟩) (by assumption) ?_
   rotate_left
   ·(intro w hSw; (try dsimp only at hSw); go_simp; (try with_reducible rfl))
   try simp only [zP]
   refine wpAnyU_takeW (i := 7) (oi := ⟨some 56, _, _, _, _, _⟩) (v := ?_) (by kernel_rfl) rfl (by kernel_rfl) (by kernel_rfl) (by kernel_rfl) (fun _ _ _ h => h) (Or.inl ⟨by rfl, ?_⟩) (by assumption) ?_
   rotate_left
   ·(intro w hSw; (try dsimp only at hSw); go_simp; (try with_reducible rfl))
   try simp only [zP]
   refine wpAnyU_takeW (i := 8) (oi := ⟨some 57, _, _, _, _, _⟩) (v := ?_) (by kernel_rfl) rfl (by kernel_rfl) (by kernel_rfl) (by kernel_rfl) (fun _ _ _ h => h) (Or.inl ⟨by rfl, ?_⟩) (by assumption) ?_
   rotate_left
   ·(intro w hSw; (try dsimp only at hSw); go_simp; (try with_reducible rfl))
   try simp only [zP]
   refine wpAnyU_ready (rs := [10]) (by kernel_rfl) (by simp) ?_
   refine AllReadyU.stop (o := ⟨none, _, _, _, _, _⟩) rfl (by kernel_rfl) (fun K hK => ?_) AllReadyU.nil
   have c0 : w3.cell? ⟨w2.heap.size, 0, none⟩ = some (.string ⟨#[]⟩) := HX3.out.cell 0; have f0 : w3.frozen? ⟨w2.heap.size, 0, none⟩ = false := HX3.out.frozen 0; have c1 : w3.cell? ⟨w2.heap.size, 1, none⟩ = some (.string ⟨#[]⟩) := HX3.out.cell 1; have f1 : w3.frozen? ⟨w2.heap.size, 1, none⟩ = false := HX3.out.frozen 1; have c2 : w3.cell? ⟨w2.heap.size, 2, none⟩ = some (.string ⟨#[]⟩) := HX3.out.cell 2; have f2 : w3.frozen? ⟨w2.heap.size, 2, none⟩ = false := HX3.out.frozen 2; have c3 : w3.cell? ⟨w2.heap.size, 3, none⟩ = some (.bool false) := HX3.out.cell 3; have f3 : w3.frozen? ⟨w2.heap.size, 3, none⟩ = false := HX3.out.frozen 3
   go_simp
   try go_wp2_with fail
   refine hK.out _ _ ?_ (fun hHeld => ?_)
   ·(try dsimp only); (try trivial)
   clear hK K
   try simp only [zP]
   refine zH (v := ?_) 11 (some 9) rfl ?_ ?_; rotate_left
   ·(intro w hSw; (try dsimp only at hSw); go_simp; (try with_reducible rfl))
   try simp only [zP]
   refine wpAnyH_done (by kernel_rfl) ?_ _
   have HX4 := zi (show Blk ((((w3.setCell ⟨w2.heap.size, 0, none⟩ (.string q1)).setCell ⟨w2.heap.size, 1, none⟩ (.string q2)).setCell ⟨w2.heap.size, 2, none⟩ (.string q3)).setCell ⟨w2.heap.size, 3, none⟩ (.bool q4)) w2.heap.size 123 #[.string q1, .string q2, .string q3, .bool q4] from (((HX3.out.set_ 0 (.string q1)).set_ 1 (.string q2)).set_ 2 (.string q3)).set_ 3 (.bool q4))
   replace hE := (((hE.setCell (p := ⟨w2.heap.size, 0, none⟩) (Nat.le_refl _) (.string q1)).setCell (p := ⟨w2.heap.size, 1, none⟩) (Nat.le_refl _) (.string q2)).setCell (p := ⟨w2.heap.size, 2, none⟩) (Nat.le_refl _) (.string q3)).setCell (p := ⟨w2.heap.size, 3, none⟩) (Nat.le_refl _) (.bool q4)
   clear c0 c1 c2 c3 f0 f1 f2 f3
   generalize (((w3.setCell ⟨w2.heap.size, 0, none⟩ (.string q1)).setCell ⟨w2.heap.size, 1, none⟩ (.string q2)).setCell ⟨w2.heap.size, 2, none⟩ (.string q3)).setCell ⟨w2.heap.size, 3, none⟩ (.bool q4) = wx at *
   generalize hbx : w2.heap.size = bx at *
   have HEx := zi (HE2.out.trans hE); have Kx := zi (Keeps.of (S := fun i => i = pa) HEx.out); have Kbx := zi (Kb2.out.trans (Keeps.of hE)); have HAx := zi (HA.out.ext HEx.out)
   rcases errV_eq0 n3 with ⟨h0, h1⟩ | ⟨h0, h1⟩
   rotate_left
   ·rw [h1]
    have hPn : P = none := by cases P with | none => rfl | some a => exact absurd (hi3.2 rfl) h0
    have k1 : wx.cell? ⟨pa, 1, none⟩ = some (.int .i64 0) := HAx.out.blk.cell 1
    have f1 : wx.frozen? ⟨pa, 1, none⟩ = false := HAx.out.blk.frozen 1
    have HZ := zi (HAx.out.putS 400)
    go_wp2_with fail
    (first | go_end0 | ((try simp only [Exit.inBlock, Exit.then]); refine bodyPost_ret (results_none rfl _ _ _) rfl ?_))
    first | exact ⟨_, rfl, ⟨sl0, sl0, by rw [D400b.out hPn]; exact HZ.out.1⟩, Kx.out.trans HZ.out.2⟩ | exact ⟨rfl, ⟨sl0, sl0, by rw [D400b.out hPn]; exact HZ.out.1⟩, Kx.out.trans HZ.out.2⟩
   ·rw [h1]
    obtain ⟨a, ha⟩ := Option.isSome_iff_exists.1 (hi3.1 h0)
    obtain ⟨e1, e2, e3, e4⟩ := adr_q (ha ▸ Hq.out)
    have hs4 := Hsz.out a ha
    have hok := Hag.out a ha
    subst e1; subst e2; subst e3; subst e4
    have hXq := HX4.out
    have u0 : wx.cell? ⟨bx, 0, none⟩ = some (.string ⟨a.host.toArray⟩) := hXq.cell 0
    have u1 : wx.cell? ⟨bx, 1, none⟩ = some (.string ⟨a.path.toArray⟩) := hXq.cell 1
    have u2 : wx.cell? ⟨bx, 2, none⟩ = some (.string ⟨a.query.toArray⟩) := hXq.cell 2
    have u3 : wx.cell? ⟨bx, 3, none⟩ = some (.bool a.has) := hXq.cell 3
    clear hXq
    have HFm := zi (HFm.out wx a hok (by omega) (by omega) Kx.out)
    have D404 := zi (D404.out a ha); have Dver := zi (fun k => Dver.out a k ha)
    generalize (⟨(adText a).toArray⟩ : ByteArray) = T at *
    clear hok hs4
    go_wp2_with fail
    refine HFm.out.mono ?_; rintro e w5 ⟨rfl, hb5⟩
    clear u0 u1 u2 u3
    have HA5 := zi (HAx.out.ext hb5)
    have k4 : w5.cell? ⟨pa, 4, none⟩ = some (.string ⟨#[]⟩) := HA5.out.blk.cell 4
    have f4 : w5.frozen? ⟨pa, 4, none⟩ = false := HA5.out.blk.frozen 4
    have HZ4 := zi (HA5.out.putA T)
    go_upto_region 16 with fail
    have K6 := zi ((Kx.out.trans (Keeps.of hb5)).trans HZ4.out.2); have Kb6 := zi ((Kbx.out.trans (Keeps.of hb5)).trans HZ4.out.2); have HA6 := zi HZ4.out.1
    clear k4 f4 HZ4 HA5
    generalize (w5.setCell ⟨pa, 4, none⟩ (.string T)) = w6 at *
    obtain ⟨x0, x1, x2, y0⟩ := HS.out _ Kb6.out
    go_wp2_with fail
    refine (HFd.out _ T K6.out).mono ?_; rintro e w7 ⟨rfl, hb7⟩
    clear x0 x1 x2 y0
    have hfl := Hfl.out T
    have K7 := zi (K6.out.trans (Keeps.of hb7)); have Kb7 := zi (Kb6.out.trans (Keeps.of hb7)); have HA7 := zi (HA6.out.ext hb7)
    generalize findS o.vs T t = fn at *
    cases fn with
    | zero =>
     have DD := zi (D404.out (by trivial))
     go_wp2_with fail
     refine (or_brief _).mono ?_; rintro e w8 ⟨⟨bA2, bn2, bc2⟩, rfl, hbn8, hbr8, hb8⟩
     change bn2 = 1 at hbn8
     subst hbn8
     have HA8 := zi (HA7.out.ext hb8)
     have hpw : pa < w7.heap.size := HA7.out.blk.lt
     have HZ := zi (HA8.out.putF (hbr8.sub (Q' := fun i => i = pa) (fun i hi => by rw [show i = pa from hi]; exact hpw)) 404)
     simp only [Sl.v] at HZ ⊢
     have k1 : w8.cell? ⟨pa, 1, none⟩ = some (.int .i64 0) := HA8.out.blk.cell 1
     have f1 : w8.frozen? ⟨pa, 1, none⟩ = false := HA8.out.blk.frozen 1
     have k7 : w8.cell? ⟨pa, 7, none⟩ = some (.slice none 0 0) := HA8.out.blk.cell 7
     have f7 : w8.frozen? ⟨pa, 7, none⟩ = false := HA8.out.blk.frozen 7
     go_wp2_with fail
     (first | go_end0 | ((try simp only [Exit.inBlock, Exit.then]); refine bodyPost_ret (results_none rfl _ _ _) rfl ?_))
     first | exact ⟨_, rfl, ⟨_, _, by rw [DD.out]; exact HZ.out.1⟩, (K7.out.trans (Keeps.of hb8)).trans HZ.out.2⟩ | exact ⟨rfl, ⟨_, _, by rw [DD.out]; exact HZ.out.1⟩, (K7.out.trans (Keeps.of hb8)).trans HZ.out.2⟩
    | succ k =>
     have hkv : k < o.vs.length := by omega
     have DD := zi (Dver.out k (by trivial) hkv)
     have hk0 : ((((k + 1 : Nat) : Int)) == 0) = false := by rw [beq_eq_false_iff_ne]; omega
     have hk00 : (((k : Int) + 1) == 0) = false := by rw [beq_eq_false_iff_ne]; omega
     have k2 : w7.cell? ⟨pa, 2, none⟩ = some (.int .i64 0) := HA7.out.blk.cell 2
     have f2 : w7.frozen? ⟨pa, 2, none⟩ = false := HA7.out.blk.frozen 2
     have HZ := zi (HA7.out.putN ((k : Int) + 1))
     go_upto_region 20 with fail
     have K9 := zi (K7.out.trans HZ.out.2); have Kb9 := zi (Kb7.out.trans HZ.out.2); have HA9 := zi HZ.out.1
     clear k2 f2 HZ
     generalize (w7.setCell ⟨pa, 2, none⟩ (.int .i64 ((k : Int) + 1))) = w9 at *
     have hkm : k < mv.length := by have h1 : mv.length = o.vs.length := HN.out.2; omega
     have hvn : vsn = o.vs.length := HN.out.1
     obtain ⟨g, hA, c0, c1, c2, c3, c4, c5⟩ := (HO.out _ K9.out).at_ hkm
     have hvk := (HO.out _ K9.out).vs_at hkv hkm
     have hmem := (HO.out _ K9.out).mem _ (List.getElem_mem hkm)
     have hbd := (Hbd.out _ (List.getElem_mem hkv)).1
     rw [hvk] at hbd DD
     (try simp only at hA hbd DD c0 c1 c2 c3 c4 c5)
     subst hA
     generalize mv[k] = x at *
     obtain ⟨at_, vaddr, vstatus, f, vbody, vars, ⟨vfA, vfn, vfc⟩, ⟨vbA, vbn, vbc⟩, ⟨vA, vn, vc⟩⟩ := x
     simp only [Sl.v] at c0 c1 c2 c3 c4 c5 hmem hbd DD
     have HS20 := zi (fun w' (hx : Ext w9 w') => (⟨(HP.out _ (K9.out.trans (Keeps.of hx))).1, hx.cell c1, hx.cell c2, hx.cell c3, hx.cell c4, hx.cell c5, (HS.out _ (Kb9.out.trans (Keeps.of hx))).1, (HS.out _ (Kb9.out.trans (Keeps.of hx))).2.1, (HS.out _ (Kb9.out.trans (Keeps.of hx))).2.2.1⟩ : w'.cell? ⟨p, 0, none⟩ = some (.slice (some ⟨g, 0, none⟩) vsn vsc) ∧ w'.cell? ⟨g, k * 6 + 1, none⟩ = some (.string vaddr) ∧ w'.cell? ⟨g, k * 6 + 2, none⟩ = some (.int .i64 vstatus) ∧ w'.cell? ⟨g, k * 6 + 3, none⟩ = some (.slice vfA vfn vfc) ∧ w'.cell? ⟨g, k * 6 + 4, none⟩ = some (.slice vbA vbn vbc) ∧ w'.cell? ⟨g, k * 6 + 5, none⟩ = some (.slice vA vn vc) ∧ w'.cell? ⟨w.heap.size, 0, none⟩ = some (.string me) ∧ w'.cell? ⟨w.heap.size, 1, none⟩ = some (.string ta) ∧ w'.cell? ⟨w.heap.size, 2, none⟩ = some (.slice rA rn rc)))
     have HC20 := zi (fun w' (hx : Ext w9 w') => HVe.out w' _ _ _ ⟨vaddr, vstatus, f, vbody, vars, ⟨vfA, vfn, vfc⟩, ⟨vbA, vbn, vbc⟩, ⟨vA, vn, vc⟩⟩ (HA9.out.ext hx) (hmem.ext hx) hbd (K9.out.trans (Keeps.of hx)))
     clear c0 c1 c2 c3 c4 c5 hvk hmem hbd
     simp only [MV.cells, Sl.v] at HC20
     have hwm : IntKind.i64.wrap (((k + 1 : Nat) : Int) - 1) = (k : Int) := by rw [IntWalk.i64_in _ (by omega)]; omega
     have hwk : IntKind.i64.wrap (k : Int) = (k : Int) := IntWalk.i64_in _ (by omega)
     have hwl : IntKind.i64.wrap ((k : Int) + 1 - 1) = (k : Int) := by rw [IntWalk.i64_in _ (by omega)]; omega
     have hkn : (k : Int) < (vsn : Int) := by omega
     have hL := (Ext.refl w9).drew
     refine wp_region_U (S := (fun w' => w'.cell? ⟨p, 0, none⟩ = some (.slice (some ⟨g, 0, none⟩) vsn vsc) ∧ w'.cell? ⟨g, k * 6 + 1, none⟩ = some (.string vaddr) ∧ w'.cell? ⟨g, k * 6 + 2, none⟩ = some (.int .i64 vstatus) ∧ w'.cell? ⟨g, k * 6 + 3, none⟩ = some (.slice vfA vfn vfc) ∧ w'.cell? ⟨g, k * 6 + 4, none⟩ = some (.slice vbA vbn vbc) ∧ w'.cell? ⟨g, k * 6 + 5, none⟩ = some (.slice vA vn vc) ∧ w'.cell? ⟨w.heap.size, 0, none⟩ = some (.string me) ∧ w'.cell? ⟨w.heap.size, 1, none⟩ = some (.string ta) ∧ w'.cell? ⟨w.heap.size, 2, none⟩ = some (.slice rA rn rc))) 11 (by kernel_rfl) ?_ (fun hHeld => ?_)
     ·(try dsimp only); exact HS20.out _ hL
     refine wpAnyU_takeW (i := 0) (oi := ⟨some 99, _, _, _, _, _⟩) (v := ?_) (by kernel_rfl) rfl (by kernel_rfl) (by kernel_rfl) (by kernel_rfl) (fun _ _ _ h => h) (Or.inl ⟨by rfl, ?_⟩) (by assumption) ?_
     rotate_left
     ·(intro w hSw; (try dsimp only at hSw); go_simp; (try with_reducible rfl))
     try simp only [zP]
     refine wpAnyU_takeW (i := 1) (oi := ⟨some 100, _, _, _, _, _⟩) (v := ?_) (by kernel_rfl) rfl (by kernel_rfl) (by kernel_rfl) (by kernel_rfl) (fun _ _ _ h => h) (Or.inl ⟨by rfl, ?_⟩) (by assumption) ?_
     rotate_left
     ·(intro w hSw; (try dsimp only at hSw); go_simp; (try with_reducible rfl))
     try simp only [zP]
     refine wpAnyU_takeW (i := 2) (oi := ⟨some 101, _, _, _, _, _⟩) (v := ?_) (by kernel_rfl) rfl (by kernel_rfl) (by kernel_rfl) (by kernel_rfl) (fun _ _ _ h => h) (Or.inl ⟨by rfl, ?_⟩) (by assumption) ?_
     rotate_left
     ·(intro w hSw; (try dsimp only at hSw); go_simp; (try with_reducible rfl))
     try simp only [zP]
     refine wpAnyU_takeW (i := 3) (oi := ⟨some 102, _, _, _, _, _⟩) (v := ?_) (by kernel_rfl) rfl (by kernel_rfl) (by kernel_rfl) (by kernel_rfl) (fun _ _ _ h => h) (Or.inl ⟨by rfl, ?_⟩) (by assumption) ?_
     rotate_left
     ·(intro w hSw; (try dsimp only at hSw); go_simp; (try with_reducible rfl))
     try simp only [zP]
     refine wpAnyU_take (i := 4) (oi := ⟨some 103, _, _, _, _, _⟩) (v := ?_) [7, 8, 9, 11] (by kernel_rfl) (by kernel_rfl) (by kernel_rfl) (by kernel_rfl) rfl (by kernel_rfl) (by kernel_rfl) (by kernel_rfl) (fun _ _ _ h => h) (Or.inl ⟨by rfl, ?_⟩) (by assumption) ?_
     rotate_left
     ·(intro w hSw; (try dsimp only at hSw); go_simp; (try with_reducible rfl))
     try simp only [zP]
     refine wpAnyU_takeW (i := 5) (oi := ⟨some 104, _, _, _, _, _⟩) (v := ?_) (by kernel_rfl) rfl (by kernel_rfl) (by kernel_rfl) (by kernel_rfl) (fun _ _ _ h => h) (Or.inl ⟨by rfl, ?_⟩) (by assumption) ?_
     rotate_left
     ·(intro w hSw; (try dsimp only at hSw); go_simp; (try with_reducible rfl))
     try simp only [zP]
     refine wpAnyU_takeW (i := 6) (oi := ⟨some 105, _, _, _, _, _⟩) (v := ?_) (by kernel_rfl) rfl (by kernel_rfl) (by kernel_rfl) (by kernel_rfl) (fun _ _ _ h => h) (Or.inl ⟨by rfl, ?_⟩) (by assumption) ?_
     rotate_left
     ·(intro w hSw; (try dsimp only at hSw); go_simp; (try with_reducible rfl))
     try simp only [zP]
     refine wpAnyU_takeW (i := 7) (oi := ⟨some 106, _, _, _, _, _⟩) (v := ?_) (by kernel_rfl) rfl (by kernel_rfl) (by kernel_rfl) (by kernel_rfl) (fun _ _ _ h => h) (Or.inl ⟨by rfl, ?_⟩) (by assumption) ?_
     rotate_left
     ·(intro w hSw; (try dsimp only at hSw); go_simp; (try with_reducible rfl))
     try simp only [zP]
     refine wpAnyU_takeW (i := 8) (oi := ⟨some 107, _, _, _, _, _⟩) (v := ?_) (by kernel_rfl) rfl (by kernel_rfl) (by kernel_rfl) (by kernel_rfl) (fun _ _ _ h => h) (Or.inl ⟨by rfl, ?_⟩) (by assumption) ?_
     rotate_left
     ·(intro w hSw; (try dsimp only at hSw); go_simp; (try with_reducible rfl))
     try simp only [zP]
     refine wpAnyU_take (i := 9) (oi := ⟨some 108, _, _, _, _, _⟩) (v := ?_) [11] (by kernel_rfl) (by kernel_rfl) (by kernel_rfl) (by kernel_rfl) rfl (by kernel_rfl) (by kernel_rfl) (by kernel_rfl) (fun _ _ _ h => h) (Or.inl ⟨by rfl, ?_⟩) (by assumption) ?_
     rotate_left
     ·(intro w hSw; (try dsimp only at hSw); go_simp; (try with_reducible rfl))
     try simp only [zP]
     refine wpAnyU_take (i := 10) (oi := ⟨some 109, _, _, _, _, _⟩) (v := ?_) [11] (by kernel_rfl) (by kernel_rfl) (by kernel_rfl) (by kernel_rfl) rfl (by kernel_rfl) (by kernel_rfl) (by kernel_rfl) (fun _ _ _ h => h) (Or.inl ⟨by rfl, ?_⟩) (by assumption) ?_
     rotate_left
     ·(intro w hSw; (try dsimp only at hSw); go_simp; (try with_reducible rfl))
     try simp only [zP]
     refine wpAnyU_ready (rs := [11]) (by kernel_rfl) (by simp) ?_
     refine AllReadyU.stop (o := ⟨some 110, _, _, _, _, _⟩) rfl (by kernel_rfl) (fun K hK => ?_) AllReadyU.nil
     go_simp
     refine (HC20.out _ hL).mono ?_; rintro e w10 ⟨v, rfl, ⟨fs9, bd9, h9⟩, hk9⟩
     try go_wp2_with fail
     refine hK.out _ _ ?_ (fun hHeld => ?_)
     ·(try dsimp only); (try trivial)
     clear hK K
     try simp only [zP]
     refine wpAnyH_done (by kernel_rfl) ?_ _
     go_wp2_with fail
     (first | go_end0 | ((try simp only [Exit.inBlock, Exit.then]); refine bodyPost_ret (results_none rfl _ _ _) rfl ?_))
     first | exact ⟨_, rfl, ⟨fs9, bd9, by rw [DD.out]; exact h9⟩, (K9.out.trans (Keeps.of hL)).trans hk9⟩ | exact ⟨rfl, ⟨fs9, bd9, by rw [DD.out]; exact h9⟩, (K9.out.trans (Keeps.of hL)).trans hk9⟩
end Go.Proofs.YtmckbcbdnckngaaGreatDoor

namespace Go.Proofs.YtmckbcbdnckngaaGreatDoor
open Go.RowKit

structure AB (a : Ans) : Prop where
 len : a.fs.length ≤ 131075
 bsz : Bsz 4611686018427387904 a.fs
 bdy : a.body.size ≤ 1048576
theorem bsz_nil (B : Nat) : Bsz B [] := fun f hf => by cases hf
theorem crP_size {q : Int × Int} {n : Int} {text : ByteArray} (h : crP q n = some text) : text.size ≤ 100 := by
 have hin := crP_in h
 unfold crP at h
 split at h
 ·cases h
 ·rename_i hc
  injection h with h
  subst h
  simp only [Bool.or_eq_true, Bool.not_eq_true', decide_eq_true_eq, not_or] at hc
  have z1 := decV_size (n := q.1) (by omega); have z2 := decV_size (n := q.2 - 1) (by omega); have z3 := decV_size (n := n) (by omega)
  unfold rgText
  rw [ByteArray.size_append, ByteArray.size_append, ByteArray.size_append, ByteArray.size_append, ByteArray.size_append, show byS.size = 6 from rfl, show (⟨#[45]⟩ : ByteArray).size = 1 from rfl, show (⟨#[47]⟩ : ByteArray).size = 1 from rfl]
  omega
theorem AB_part {a : Ans} {r : Rq} {s : St} (h1 : a.fs.length ≤ 131074) (h2 : Bsz 4611686018427387904 a.fs) (h3 : a.body.size ≤ 1048576) : AB (partS a r s) := by
 have h0 : AB a := ⟨by omega, h2, h3⟩
 unfold partS
 split
 ·split
  ·exact h0
  ·split
   ·have z := decV_size (n := (a.body.size : Int)) (by omega)
    refine ⟨by simp, ?_, Nat.zero_le _⟩
    intro f hf
    rw [List.mem_singleton] at hf
    subst hf
    refine ⟨by show x_cr.size ≤ _; decide, ?_⟩
    simp only
    rw [ByteArray.size_append, show (⟨#[98, 121, 116, 101, 115, 32, 42, 47]⟩ : ByteArray).size = 8 from rfl]
    omega
   ·split
    ·split
     ·rename_i text ht
      have z := crP_size ht
      refine ⟨by have := setS_len x_cr text a.fs; simp only; omega, setS_bsz (by decide) (by omega) h2, ?_⟩
      simp only [ByteArray.size_extract]
      omega
     ·exact h0
    ·exact h0
 ·exact h0
theorem bsz_sumle {fs : List Fd} {n : Nat} (h : sumF fs ≤ n) (hn : n ≤ 4611686018427387904) : Bsz 4611686018427387904 fs := fun f hf => by
 have h1 := bszF fs f hf
 exact ⟨by have := h1.1; omega, by have := h1.2; omega⟩
theorem AB_ver {a : Ans} {v : Ver} {r : Rq} (hB : VerB v) : AB (verS a v r) := by
 obtain ⟨c1, c2, c3⟩ := chs_bd v r.fs 0 hB.body hB.fs.1 hB.fs.2 0 v.vars (fun x hx => ⟨(hB.each x hx).2.2.1, (hB.each x hx).2.2.2⟩)
 have hz := bsz_sumle c2 (by omega)
 unfold verS
 simp only
 split
 ·exact ⟨by show (chsS v r.fs 0 v.vars).1.length ≤ _; omega, hz, c3⟩
 ·split
  ·refine ⟨?_, ?_, Nat.zero_le _⟩
   ·have := kpt_len (chS v r.fs).1 (chS v r.fs).1.length
    rw [List.take_length] at this
    have c1' : (chS v r.fs).1.length ≤ 131073 := c1
    simp only; omega
   ·intro f hf
    exact hz f (List.mem_filter.1 hf).1
  ·split
   ·exact ⟨by simp, bsz_nil _, Nat.zero_le _⟩
   ·exact AB_part (by show (chsS v r.fs 0 v.vars).1.length ≤ _; omega) hz c3
theorem AB_dec {o : Org} {t : Int} {r : Rq} (h : ∀ x ∈ o.vs, VerB x.2) : AB (decS55 o t r) := by
 have hb : Bsz 4611686018427387904 brief := by unfold brief; intro f hf; rw [List.mem_singleton] at hf; subst hf; exact ⟨by decide, by decide⟩
 have e0 : ∀ s, AB { ans0 with status := s } := fun s => ⟨by simp [ans0], bsz_nil _, Nat.zero_le _⟩
 have e1 : ∀ s x, AB { ans0 with status := s, addr := x, fs := brief } := fun s x => ⟨by simp [brief], hb, Nat.zero_le _⟩
 unfold decS55
 split
 ·exact e0 _
 ·split
  ·exact e0 _
  ·split
   ·split
    ·exact e0 _
    ·simp only
     split
     ·rename_i p hp
      split
      ·exact e1 _ _
      ·exact AB_ver (h p (List.mem_of_getElem? hp))
     ·exact e1 _ _
   ·exact e0 _
theorem http_Floor (t : Int) (w : World) : Calls Tryz.prog 46 #[.int .i64 t] w fun e w' => e = .returned (.int .i64 (cl55 t / 1000)) ∧ w' = w := by
 have h0 : 0 ≤ cl55 t ∧ cl55 t ≤ 1099511627776 := by unfold cl55; omega
 have HR := zi (show cl55 t = max 0 (min t 1099511627776) from rfl)
 have q1 : (max 0 (min t 1099511627776)).tdiv 1000 = cl55 t / 1000 := by rw [← HR.out]; exact Int.tdiv_eq_ediv_of_nonneg h0.1
 have hw1 : IntKind.i64.wrap (cl55 t / 1000) = cl55 t / 1000 := IntWalk.i64_in _ (by omega)
 generalize cl55 t / 1000 = R at *
 go_enter Tryz.func46, Tryz.ntmps46
 go_wp2_with fail
 go_ret
 exact ⟨rfl, rfl⟩
end Go.Proofs.YtmckbcbdnckngaaGreatDoor
