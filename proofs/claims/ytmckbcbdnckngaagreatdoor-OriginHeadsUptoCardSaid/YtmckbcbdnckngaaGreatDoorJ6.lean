/- Walks of functions that the proof needs, and plain laws on what they compute. No condition beyond those that each one states. -/
import Derived.Test.YtmckbcbdnckngaaGreatDoorJ5
set_option maxHeartbeats 32000000
set_option maxRecDepth 100000
set_option linter.unusedSimpArgs false
set_option linter.unusedVariables false
namespace Go.Proofs.YtmckbcbdnckngaaGreatDoor
open Go.RowKit

theorem law_repr (Q : Nat → Prop) (m : MV) (me ta : ByteArray) (rA : Option Addr) (rn rc : Nat) (rfs : List Fd) (w : World) (h : m.At Q w) (hr : RdF w rA rn rfs) (hQ : ∀ i, Q i → i < w.heap.size)
  (hf : m.f.length ≤ 1048576) (hT : sumF m.f ≤ 1048576) (hv : m.vars.length ≤ 1048576) (hx : ∀ x ∈ m.vars, x.1.names.length ≤ 1048576 ∧ (∀ n ∈ x.1.names, n.size ≤ 1048576) ∧ x.1.tag.size ≤ 1048576)
  (hrn : rn ≤ 1048576) (hrT : sumF rfs ≤ 1048576) (hg : Gl w) :
  Calls Tryz.prog 123 #[.agg m.cells.toArray, .agg #[.string me, .string ta, .slice rA rn rc]] w fun e w' => ∃ s1 s2 : Sl, e = .returned (.tuple #[s1.v, s2.v, .int .i64 ((chS m.ver rfs).2.2 : Nat)]) ∧
   RS Q w' 2 s1 (fldCells (chS m.ver rfs).1) ∧ RS Q w' 1 s2 (bytC (chS m.ver rfs).2.1) ∧ Ext w w' := by
 have hfl := h.fs.rd.lenF
 have hvl := h.vlen
 have hbz := bszF m.f
 have HRm := zi (fun w' (hh : Ext w w') => field_Remove m.fs.A m.fs.n m.fs.c m.f x_et w' (h.fs.rd.ext hh) (by omega) (by decide) (fun f hf => ⟨by have := (hbz f hf).1; omega, by have := (hbz f hf).2; omega⟩))
 have HSt := zi (fun w' tag (hh : Ext w w') => field_Set m.fs.A m.fs.n m.fs.c m.f x_et tag w' (h.fs.rd.ext hh) (by omega) (by decide) (fun f hf => ⟨by have := (hbz f hf).1; omega, by have := (hbz f hf).2; omega⟩))
 have HKy := zi (fun w' names (nm : Sl) (hh : Ext w w') (h1 : RdS w' nm.A nm.n names) (h2 : nm.n ≤ 1048576) (h3 : ∀ n ∈ names, n.size ≤ 1048576) => vr_Key nm.A nm.n nm.c names rA rn rc rfs w' h1 (hr.ext hh) h2 hrn h3 hrT)
 have HAt := zi h; have Hx := zi hx; have Hvl := zi hvl; have HQ := zi hQ
 have hvn : m.vr.n ≤ 1048576 := by omega
 have HC0 := zi (show chsS m.ver rfs 0 ((m.vars.map (·.1)).drop 0) = chS m.ver rfs from rfl)
 have Hhit := zi (fun k h => @chs_hit m.ver rfs m.vars k h); have Hstep := zi (fun k h => @chs_step m.ver rfs m.vars k h); have Hend := zi (fun k h => @chs_end m.ver rfs m.vars k h)
 have HE1 : m.ver.fs = m.f := rfl
 have HE2 : m.ver.body = m.body := rfl
 rw [HE1] at Hhit Hend
 rw [HE2] at Hend
 generalize chS m.ver rfs = CH at *
 generalize hcf : (fun k => chsS m.ver rfs k ((m.vars.map (·.1)).drop k)) = CF at *
 have HCF := zi (fun k => show chsS m.ver rfs k ((m.vars.map (·.1)).drop k) = CF k from congrFun hcf k)
 have Hhitb := zi (fun k h hq => (HCF.out k).symm.trans (Hhit.out k h hq))
 have Hstepb := zi (fun k h hq => (HCF.out k).symm.trans ((Hstep.out k h hq).trans (HCF.out (k + 1))))
 have Hendb := zi (fun k h => (HCF.out k).symm.trans (Hend.out k h))
 have HC0b := zi ((HCF.out 0).symm.trans HC0.out)
 clear Hhit Hstep Hend HC0 hfl hbz h hx hvl hQ hf hT hv hr hrT hg HE1 HE2 HCF hcf
 obtain ⟨addr, status, f, body, vars, ⟨fA, fn, fc⟩, ⟨bA, bn, bc⟩, ⟨vA, vn, vc⟩⟩ := m
 simp only [MV.cells, Sl.v] at *
 have HX := zi ((Blk.new w 36 #[.string addr, .int .i64 status, .slice fA fn fc, .slice bA bn bc, .slice vA vn vc]).alloc (.cells #[.string me, .string ta, .slice rA rn rc] 42))
 have hXr := Blk.new (w.alloc (.cells #[.string addr, .int .i64 status, .slice fA fn fc, .slice bA bn bc, .slice vA vn vc] 36)) 42 #[.string me, .string ta, .slice rA rn rc]
 rw [show (w.alloc (.cells #[.string addr, .int .i64 status, .slice fA fn fc, .slice bA bn bc, .slice vA vn vc] 36)).heap.size = w.heap.size + 1 by simp] at hXr
 have HXr := zi hXr
 clear hXr
 have HW := zi (((Ext.refl w).alloc (.cells #[.string addr, .int .i64 status, .slice fA fn fc, .slice bA bn bc, .slice vA vn vc] 36)).alloc (.cells #[.string me, .string ta, .slice rA rn rc] 42))
 have HS := zi (fun w' (hh : Ext ((w.alloc (.cells #[.string addr, .int .i64 status, .slice fA fn fc, .slice bA bn bc, .slice vA vn vc] 36)).alloc (.cells #[.string me, .string ta, .slice rA rn rc] 42)) w') => (⟨(HX.out.ext hh).cell 2, (HX.out.ext hh).cell 3, (HX.out.ext hh).cell 4⟩ : w'.cell? ⟨w.heap.size, 2, none⟩ = some (.slice fA fn fc) ∧ w'.cell? ⟨w.heap.size, 3, none⟩ = some (.slice bA bn bc) ∧ w'.cell? ⟨w.heap.size, 4, none⟩ = some (.slice vA vn vc)))
 obtain ⟨x2, x3, x4⟩ := HS.out _ (Ext.refl _)
 go_enter Tryz.func123, Tryz.ntmps123
 go_wp2_with fail
 clear x2 x3 x4
 generalize (w.alloc (.cells #[.string addr, .int .i64 status, .slice fA fn fc, .slice bA bn bc, .slice vA vn vc] 36)).alloc (.cells #[.string me, .string ta, .slice rA rn rc] 42) = Wb at *
 go_loopw [12] (fun i wr => ∃ k : Nat, k ≤ vn ∧ i = .int .i64 (k : Nat) ∧ CF k = CH ∧ Ext Wb wr) (fun i _ => vn - (intOf i).toNat)
 case atStart => exact ⟨0, Nat.zero_le _, rfl, HC0b.out, Ext.refl _⟩
 case round =>
  obtain ⟨k, hk, rfl, hch, hbr⟩ := hrel
  by_cases hlt : k < vn
  ·have hlt' : k < vars.length := by have := Hvl.out; omega
   obtain ⟨b, o, hbo, c0, c1, c2, c3⟩ := (HAt.out.ext (HW.out.trans hbr)).var hlt'
   simp only at hbo
   subst hbo
   have Hh := zi (fun hq => hch.symm.trans (Hhitb.out k hlt' hq)); have Hs := zi (fun hq => (Hstepb.out k hlt' hq).symm.trans hch)
   have hxk := Hx.out _ (List.getElem_mem hlt')
   have HVk := zi (HAt.out.each _ (List.getElem_mem hlt'))
   clear hch
   generalize vars[k] = x at *
   obtain ⟨⟨names, key, tag, xb⟩, ⟨⟨nA, nn, nc⟩, ⟨dA, dn, dc⟩⟩⟩ := x
   simp only [Sl.v] at *
   have hnn : names.length = nn := HVk.out.nm.rd.lenS
   have HK := zi (fun w' (hh : Ext w w') => HKy.out w' names ⟨nA, nn, nc⟩ hh (HVk.out.nm.rd.ext hh) (by simp only; omega) hxk.2.1)
   have htz := hxk.2.2
   simp only at HK
   clear hxk hnn
   have HXv := zi (Blk.new wr 58 #[.slice nA nn nc, .string key, .string tag, .slice dA dn dc])
   have hE := hbr.alloc (.cells #[.slice nA nn nc, .string key, .string tag, .slice dA dn dc] 58)
   rw [beqB] at Hh Hs
   have x4 := (HS.out _ hbr).2.2
   go_wp2_with fail
   clear x4
   have HSv := zi (fun w' (hh : Ext (wr.alloc (.cells #[.slice nA nn nc, .string key, .string tag, .slice dA dn dc] 58)) w') => (⟨(HXv.out.ext hh).cell 0, (HXv.out.ext hh).cell 1, (HXv.out.ext hh).cell 2, (HXv.out.ext hh).cell 3⟩ : w'.cell? ⟨wr.heap.size, 0, none⟩ = some (.slice nA nn nc) ∧ w'.cell? ⟨wr.heap.size, 1, none⟩ = some (.string key) ∧ w'.cell? ⟨wr.heap.size, 2, none⟩ = some (.string tag) ∧ w'.cell? ⟨wr.heap.size, 3, none⟩ = some (.slice dA dn dc)))
   have hV := (Ext.refl (wr.alloc (.cells #[.slice nA nn nc, .string key, .string tag, .slice dA dn dc] 58))).drew
   generalize wr.alloc (.cells #[.slice nA nn nc, .string key, .string tag, .slice dA dn dc] 58) = Wv at *
   generalize wr.heap.size = bv at *
   generalize hky : vkyS names rfs = ky at *
   clear hky c0 c1 c2 c3
   by_cases hkk : ky = key
   rotate_left
   ·have hq : (ky.toList == key.toList) = false := Bool.eq_false_iff.2 (fun e => hkk (eqS_iff.1 e))
    have HV := zi (Hs.out (by simp [hkk]))
    clear hkk Hh Hs
    refine wp_region_held_drew (S := (fun w' => w'.cell? ⟨bv, 0, none⟩ = some (.slice nA nn nc) ∧ w'.cell? ⟨bv, 1, none⟩ = some (.string key) ∧ w'.cell? ⟨w.heap.size + 1, 2, none⟩ = some (.slice rA rn rc))) (by kernel_rfl) ?_ (fun hHeld => ?_)
    ·(try dsimp only); exact ⟨(HSv.out _ hV).1, (HSv.out _ hV).2.1, (HXr.out.ext (hE.trans hV)).cell 2⟩
    refine zH (v := ?_) 0 (some 20) rfl ?_ ?_; rotate_left
    ·(intro w hSw; (try dsimp only at hSw); go_simp; (try with_reducible rfl))
    try simp only [zP]
    refine zH (v := ?_) 1 (some 21) rfl ?_ ?_; rotate_left
    ·(intro w hSw; (try dsimp only at hSw); go_simp; (try with_reducible rfl))
    try simp only [zP]
    refine zH (v := ?_) 2 (some 22) rfl ?_ ?_; rotate_left
    ·(intro w hSw; (try dsimp only at hSw); go_simp; (try with_reducible rfl))
    try simp only [zP]
    refine zH (v := ?_) 3 (some 23) rfl ?_ ?_; rotate_left
    ·(intro w hSw; (try dsimp only at hSw); go_simp; (try with_reducible rfl))
    try simp only [zP]
    refine zH (v := ?_) 5 (some 25) rfl ?_ ?_; rotate_left
    ·(intro w hSw; (try dsimp only at hSw); go_simp; (try with_reducible rfl))
    try simp only [zP]
    refine zH (v := ?_) 6 (some 26) rfl ?_ ?_; rotate_left
    ·(intro w hSw; (try dsimp only at hSw); go_simp; (try with_reducible rfl))
    try simp only [zP]
    refine wpAnyH_ready (rs := [4]) (by kernel_rfl) (by simp) ?_
    refine AllReadyH.cons (o := ⟨some 24, _, _, _, _, _⟩) rfl (fun K hK => ?_) AllReadyH.nil
    go_simp
    refine (HK.out _ (HW.out.trans (hE.trans hV))).mono ?_; rintro e w4 ⟨rfl, hb4⟩; replace hV := hV.trans hb4; clear hb4
    try go_wp2_with fail
    refine hK.out _ _ ?_ (fun hHeld => ?_)
    ·(try dsimp only); exact ⟨(HSv.out _ hV).1, (HSv.out _ hV).2.1, (HXr.out.ext (hE.trans hV)).cell 2⟩
    clear hK K
    try simp only [zP]
    refine zH (v := ?_) 7 (some 27) rfl ?_ ?_; rotate_left
    ·(intro w hSw; (try dsimp only at hSw); go_simp; (try with_reducible rfl))
    try simp only [zP]
    refine wpAnyH_done (by kernel_rfl) ?_ _
    go_wp2_with fail
    first | go_roundw | refine ⟨?rel, ?measure⟩
    case rel => exact ⟨k + 1, by omega, by go_num, HV.out, hE.trans hV⟩
    case measure => simp [intOf]; omega
   ·have hq : (ky.toList == key.toList) = true := eqS_iff.2 hkk
    have HV := zi (Hh.out (by simp [hkk]))
    clear hkk Hh Hs
    refine wp_region_held_drew (S := (fun w' => w'.cell? ⟨bv, 0, none⟩ = some (.slice nA nn nc) ∧ w'.cell? ⟨bv, 1, none⟩ = some (.string key) ∧ w'.cell? ⟨w.heap.size + 1, 2, none⟩ = some (.slice rA rn rc))) (by kernel_rfl) ?_ (fun hHeld => ?_)
    ·(try dsimp only); exact ⟨(HSv.out _ hV).1, (HSv.out _ hV).2.1, (HXr.out.ext (hE.trans hV)).cell 2⟩
    refine zH (v := ?_) 0 (some 20) rfl ?_ ?_; rotate_left
    ·(intro w hSw; (try dsimp only at hSw); go_simp; (try with_reducible rfl))
    try simp only [zP]
    refine zH (v := ?_) 1 (some 21) rfl ?_ ?_; rotate_left
    ·(intro w hSw; (try dsimp only at hSw); go_simp; (try with_reducible rfl))
    try simp only [zP]
    refine zH (v := ?_) 2 (some 22) rfl ?_ ?_; rotate_left
    ·(intro w hSw; (try dsimp only at hSw); go_simp; (try with_reducible rfl))
    try simp only [zP]
    refine zH (v := ?_) 3 (some 23) rfl ?_ ?_; rotate_left
    ·(intro w hSw; (try dsimp only at hSw); go_simp; (try with_reducible rfl))
    try simp only [zP]
    refine zH (v := ?_) 5 (some 25) rfl ?_ ?_; rotate_left
    ·(intro w hSw; (try dsimp only at hSw); go_simp; (try with_reducible rfl))
    try simp only [zP]
    refine zH (v := ?_) 6 (some 26) rfl ?_ ?_; rotate_left
    ·(intro w hSw; (try dsimp only at hSw); go_simp; (try with_reducible rfl))
    try simp only [zP]
    refine wpAnyH_ready (rs := [4]) (by kernel_rfl) (by simp) ?_
    refine AllReadyH.cons (o := ⟨some 24, _, _, _, _, _⟩) rfl (fun K hK => ?_) AllReadyH.nil
    go_simp
    refine (HK.out _ (HW.out.trans (hE.trans hV))).mono ?_; rintro e w4 ⟨rfl, hb4⟩; replace hV := hV.trans hb4; clear hb4
    try go_wp2_with fail
    refine hK.out _ _ ?_ (fun hHeld => ?_)
    ·(try dsimp only); exact ⟨(HSv.out _ hV).1, (HSv.out _ hV).2.1, (HXr.out.ext (hE.trans hV)).cell 2⟩
    clear hK K
    try simp only [zP]
    refine zH (v := ?_) 7 (some 27) rfl ?_ ?_; rotate_left
    ·(intro w hSw; (try dsimp only at hSw); go_simp; (try with_reducible rfl))
    try simp only [zP]
    refine wpAnyH_done (by kernel_rfl) ?_ _
    obtain ⟨v0, v1, v2, v3⟩ := HSv.out _ hV
    have hwk : IntKind.i64.wrap ((k : Int) + 1) = ((k + 1 : Nat) : Int) := by rw [IntWalk.i64_in _ (by omega)]; omega
    have hEw := HW.out.trans (hE.trans hV)
    by_cases htg : tag = ⟨#[]⟩
    ·have t1 := isE_yes htg
     have t2 : (tag.toList == []) = true := by rw [ByteArray.toList_eq, htg]; rfl
     obtain rfl : CH = (remS f x_et, xb, k + 1) := by rw [HV.out]; simp only [htg]; rfl
     clear htg
     go_wp2_with fail
     clear v0 v1 v2 v3
     replace hV := hV.drew
     refine wp_region_held_drew (S := (fun w' => w'.cell? ⟨w.heap.size, 2, none⟩ = some (.slice fA fn fc) ∧ w'.cell? ⟨bv, 2, none⟩ = some (.string tag) ∧ w'.cell? ⟨bv, 3, none⟩ = some (.slice dA dn dc))) (by kernel_rfl) ?_ (fun hHeld => ?_)
     ·(try dsimp only); exact ⟨(HS.out _ (hE.trans hV)).1, (HSv.out _ hV).2.2.1, (HSv.out _ hV).2.2.2⟩
     refine zH (v := ?_) 0 (some 31) rfl ?_ ?_; rotate_left
     ·(intro w hSw; (try dsimp only at hSw); go_simp; (try with_reducible rfl))
     try simp only [zP]
     refine zH (v := ?_) 1 (some 32) rfl ?_ ?_; rotate_left
     ·(intro w hSw; (try dsimp only at hSw); go_simp; (try with_reducible rfl))
     try simp only [zP]
     refine zH (v := ?_) 3 (some 34) rfl ?_ ?_; rotate_left
     ·(intro w hSw; (try dsimp only at hSw); go_simp; (try with_reducible rfl))
     try simp only [zP]
     refine zH (v := ?_) 4 (some 35) rfl ?_ ?_; rotate_left
     ·(intro w hSw; (try dsimp only at hSw); go_simp; (try with_reducible rfl))
     try simp only [zP]
     refine zH (v := ?_) 5 (some 36) rfl ?_ ?_; rotate_left
     ·(intro w hSw; (try dsimp only at hSw); go_simp; (try with_reducible rfl))
     try simp only [zP]
     refine zH (v := ?_) 6 (some 37) rfl ?_ ?_; rotate_left
     ·(intro w hSw; (try dsimp only at hSw); go_simp; (try with_reducible rfl))
     try simp only [zP]
     refine wpAnyH_ready (rs := [2]) (by kernel_rfl) (by simp) ?_
     refine AllReadyH.cons (o := ⟨some 33, _, _, _, _, _⟩) rfl (fun K hK => ?_) AllReadyH.nil
     go_simp
     refine (HRm.out _ (HW.out.trans (hE.trans hV))).mono ?_; rintro e w6 ⟨A6, n6, c6, rfl, -, hle6, hb6, hown6⟩; have hown6 := zi hown6; replace hV := hV.trans hb6; clear hb6
     try go_wp2_with fail
     refine hK.out _ _ ?_ (fun hHeld => ?_)
     ·(try dsimp only); exact ⟨(HS.out _ (hE.trans hV)).1, (HSv.out _ hV).2.2.1, (HSv.out _ hV).2.2.2⟩
     clear hK K
     try simp only [zP]
     refine zH (v := ?_) 7 (some 4) rfl ?_ ?_; rotate_left
     ·(intro w hSw; (try dsimp only at hSw); go_simp; (try with_reducible rfl))
     try simp only [zP]
     refine zH (v := ?_) 8 (some 5) rfl ?_ ?_; rotate_left
     ·(intro w hSw; (try dsimp only at hSw); go_simp; (try with_reducible rfl))
     try simp only [zP]
     refine zH (v := ?_) 9 (some 6) rfl ?_ ?_; rotate_left
     ·(intro w hSw; (try dsimp only at hSw); go_simp; (try with_reducible rfl))
     try simp only [zP]
     refine wpAnyH_done (by kernel_rfl) ?_ _
     go_wp2_with fail
     refine bodyPost_ret (v := .tuple #[.slice A6 n6 c6, .slice dA dn dc, .int .i64 ((k + 1 : Nat) : Int)]) (by simp [results, Tryz.results123, go_sem]) rfl ?_
     have hEf := HW.out.trans (hE.trans hV)
     refine ⟨⟨A6, n6, c6⟩, ⟨dA, dn, dc⟩, rfl, ⟨Rd.of_own (hown6.out), fun h1 a ha hb => ?_, hle6⟩, HVk.out.bd.ext hEf, hEf⟩
     have h9 := (hown6.out.lt a.block (by simp only at ha; subst ha; rfl)).1
     have h8 := HQ.out _ hb
     have h7 := hEw.drew.size
     omega
    ·have t1 := isE_no htg
     have t2 : (tag.toList == []) = false := by
      rw [Bool.eq_false_iff]; intro e; rw [beq_iff_eq, ByteArray.toList_eq] at e; exact htg (bytes_ext e)
     obtain rfl : CH = (setS x_et tag f, xb, k + 1) := by
      rw [HV.out, if_neg (by simp; intro e; exact htg e)]
     clear htg
     go_wp2_with fail
     clear v0 v1 v2 v3
     replace hV := hV.drew
     refine wp_region_held_drew (S := (fun w' => w'.cell? ⟨w.heap.size, 2, none⟩ = some (.slice fA fn fc) ∧ w'.cell? ⟨bv, 2, none⟩ = some (.string tag) ∧ w'.cell? ⟨bv, 3, none⟩ = some (.slice dA dn dc))) (by kernel_rfl) ?_ (fun hHeld => ?_)
     ·(try dsimp only); exact ⟨(HS.out _ (hE.trans hV)).1, (HSv.out _ hV).2.2.1, (HSv.out _ hV).2.2.2⟩
     refine zH (v := ?_) 0 (some 38) rfl ?_ ?_; rotate_left
     ·(intro w hSw; (try dsimp only at hSw); go_simp; (try with_reducible rfl))
     try simp only [zP]
     refine zH (v := ?_) 1 (some 39) rfl ?_ ?_; rotate_left
     ·(intro w hSw; (try dsimp only at hSw); go_simp; (try with_reducible rfl))
     try simp only [zP]
     refine zH (v := ?_) 2 (some 40) rfl ?_ ?_; rotate_left
     ·(intro w hSw; (try dsimp only at hSw); go_simp; (try with_reducible rfl))
     try simp only [zP]
     refine zH (v := ?_) 3 (some 41) rfl ?_ ?_; rotate_left
     ·(intro w hSw; (try dsimp only at hSw); go_simp; (try with_reducible rfl))
     try simp only [zP]
     refine zH (v := ?_) 5 (some 43) rfl ?_ ?_; rotate_left
     ·(intro w hSw; (try dsimp only at hSw); go_simp; (try with_reducible rfl))
     try simp only [zP]
     refine zH (v := ?_) 6 (some 44) rfl ?_ ?_; rotate_left
     ·(intro w hSw; (try dsimp only at hSw); go_simp; (try with_reducible rfl))
     try simp only [zP]
     refine zH (v := ?_) 7 (some 45) rfl ?_ ?_; rotate_left
     ·(intro w hSw; (try dsimp only at hSw); go_simp; (try with_reducible rfl))
     try simp only [zP]
     refine zH (v := ?_) 8 (some 46) rfl ?_ ?_; rotate_left
     ·(intro w hSw; (try dsimp only at hSw); go_simp; (try with_reducible rfl))
     try simp only [zP]
     refine wpAnyH_ready (rs := [4]) (by kernel_rfl) (by simp) ?_
     refine AllReadyH.cons (o := ⟨some 42, _, _, _, _, _⟩) rfl (fun K hK => ?_) AllReadyH.nil
     go_simp
     refine (HSt.out _ tag (HW.out.trans (hE.trans hV))).mono ?_; rintro e w6 ⟨A6, n6, c6, rfl, -, hle6, hb6, hown6⟩; have hown6 := zi hown6; replace hV := hV.trans hb6; clear hb6
     try go_wp2_with fail
     refine hK.out _ _ ?_ (fun hHeld => ?_)
     ·(try dsimp only); exact ⟨(HS.out _ (hE.trans hV)).1, (HSv.out _ hV).2.2.1, (HSv.out _ hV).2.2.2⟩
     clear hK K
     try simp only [zP]
     refine zH (v := ?_) 9 (some 4) rfl ?_ ?_; rotate_left
     ·(intro w hSw; (try dsimp only at hSw); go_simp; (try with_reducible rfl))
     try simp only [zP]
     refine zH (v := ?_) 10 (some 5) rfl ?_ ?_; rotate_left
     ·(intro w hSw; (try dsimp only at hSw); go_simp; (try with_reducible rfl))
     try simp only [zP]
     refine zH (v := ?_) 11 (some 6) rfl ?_ ?_; rotate_left
     ·(intro w hSw; (try dsimp only at hSw); go_simp; (try with_reducible rfl))
     try simp only [zP]
     refine wpAnyH_done (by kernel_rfl) ?_ _
     go_wp2_with fail
     refine bodyPost_ret (v := .tuple #[.slice A6 n6 c6, .slice dA dn dc, .int .i64 ((k + 1 : Nat) : Int)]) (by simp [results, Tryz.results123, go_sem]) rfl ?_
     have hEf := HW.out.trans (hE.trans hV)
     refine ⟨⟨A6, n6, c6⟩, ⟨dA, dn, dc⟩, rfl, ⟨Rd.of_own (hown6.out), fun h1 a ha hb => ?_, hle6⟩, HVk.out.bd.ext hEf, hEf⟩
     have h9 := (hown6.out.lt a.block (by simp only at ha; subst ha; rfl)).1
     have h8 := HQ.out _ hb
     have h7 := hEw.drew.size
     omega
  ·obtain rfl : k = vn := by omega
   obtain rfl : CH = (f, body, 0) := by rw [← hch]; exact Hendb.out _ (by have := Hvl.out; omega)
   go_wp2_with fail
   have hE := hbr.drew
   refine wp_region_held_drew (S := (fun w' => w'.cell? ⟨w.heap.size, 2, none⟩ = some (.slice fA fn fc) ∧ w'.cell? ⟨w.heap.size, 3, none⟩ = some (.slice bA bn bc))) (by kernel_rfl) ?_ (fun hHeld => ?_)
   ·(try dsimp only); exact ⟨(HS.out _ hE).1, (HS.out _ hE).2.1⟩
   refine zH (v := ?_) 0 (some 48) rfl ?_ ?_; rotate_left
   ·(intro w hSw; (try dsimp only at hSw); go_simp; (try with_reducible rfl))
   try simp only [zP]
   refine zH (v := ?_) 1 (some 49) rfl ?_ ?_; rotate_left
   ·(intro w hSw; (try dsimp only at hSw); go_simp; (try with_reducible rfl))
   try simp only [zP]
   refine zH (v := ?_) 2 (some 50) rfl ?_ ?_; rotate_left
   ·(intro w hSw; (try dsimp only at hSw); go_simp; (try with_reducible rfl))
   try simp only [zP]
   refine zH (v := ?_) 3 (some 51) rfl ?_ ?_; rotate_left
   ·(intro w hSw; (try dsimp only at hSw); go_simp; (try with_reducible rfl))
   try simp only [zP]
   refine zH (v := ?_) 4 (some 4) rfl ?_ ?_; rotate_left
   ·(intro w hSw; (try dsimp only at hSw); go_simp; (try with_reducible rfl))
   try simp only [zP]
   refine zH (v := ?_) 5 (some 5) rfl ?_ ?_; rotate_left
   ·(intro w hSw; (try dsimp only at hSw); go_simp; (try with_reducible rfl))
   try simp only [zP]
   refine zH (v := ?_) 6 (some 6) rfl ?_ ?_; rotate_left
   ·(intro w hSw; (try dsimp only at hSw); go_simp; (try with_reducible rfl))
   try simp only [zP]
   refine wpAnyH_done (by kernel_rfl) ?_ _
   go_wp2_with fail
   refine bodyPost_ret (v := .tuple #[.slice fA fn fc, .slice bA bn bc, .int .i64 0]) (by simp [results, Tryz.results123, go_sem]) rfl ?_
   have hEf := HW.out.trans hE
   exact ⟨⟨fA, fn, fc⟩, ⟨bA, bn, bc⟩, rfl, HAt.out.fs.ext hEf, HAt.out.bd.ext hEf, hEf⟩
end Go.Proofs.YtmckbcbdnckngaaGreatDoor

namespace Go.Proofs.YtmckbcbdnckngaaGreatDoor
open Go.RowKit

theorem law_state (A : Option Addr) (n c : Nat) (fs : List Fd) (w : World) (hf : RdF w A n fs) (hn : n ≤ 1048576) (hT : sumF fs + 2 * n ≤ 1048576) (hg : GlH w) :
  Calls Tryz.prog 124 #[.slice A n c] w fun e w' => e = .returned (.agg (stArr (stS fs))) ∧ Ext w w' := by
 have hbz := bszF fs
 have hbz2 : Bsz 1048576 fs := fun f hf => ⟨by have := (hbz f hf).1; omega, by have := (hbz f hf).2; omega⟩
 have G1 := zi (fun w' (h : Ext w w') => field_GetO A n c fs x_et w' (hf.ext h) (by omega) (by decide) hbz2 (by omega))
 have G2 := zi (fun w' (h : Ext w w') => field_GetO A n c fs x_lm w' (hf.ext h) (by omega) (by decide) hbz2 (by omega))
 have V1 := zi (fun v h => Nat.le_trans (@getO_size fs x_et v h n hf.lenF) hT)
 have V2 := zi (fun v h => Nat.le_trans (@getO_size fs x_lm v h n hf.lenF) hT)
 have HP := zi (fun w' (h : Ext w w') v (hv : v.size ≤ 1048576) => http_Parse v w' (by omega) (hg.ext h))
 have HR := zi (stS_eq fs)
 clear hbz hbz2 hf hT hg
 generalize stArr (stS fs) = R at *
 generalize getO fs x_et = oe at *
 generalize getO fs x_lm = ol at *
 have HB1 := zi ((Blk.new w 187 #[.bool false, .bool false, .bool false, .bool false, .string ⟨#[]⟩, .int .i64 0]).alloc (.cells #[.bool true, .bool false, .bool false, .bool false, .string ⟨#[]⟩, .int .i64 0] 187))
 have HB2 := zi (Blk.new (w.alloc (.cells #[.bool false, .bool false, .bool false, .bool false, .string ⟨#[]⟩, .int .i64 0] 187)) 187 #[.bool true, .bool false, .bool false, .bool false, .string ⟨#[]⟩, .int .i64 0])
 have hE := (((Ext.refl w).alloc (.cells #[.bool false, .bool false, .bool false, .bool false, .string ⟨#[]⟩, .int .i64 0] 187)).alloc (.cells #[.bool true, .bool false, .bool false, .bool false, .string ⟨#[]⟩, .int .i64 0] 187))
 have hsz1 : (w.alloc (.cells #[.bool false, .bool false, .bool false, .bool false, .string ⟨#[]⟩, .int .i64 0] 187)).heap.size = w.heap.size + 1 := by simp
 rw [hsz1] at HB2
 go_enter Tryz.func124, Tryz.ntmps124
 go_wp2_with fail
 (try rw [hsz1])
 refine (G1.out _ hE).mono ?_; rintro e w1 ⟨rfl, hb1⟩
 replace HB1 := zi (HB1.out.ext hb1); replace HB2 := zi (HB2.out.ext hb1)
 have hE := hE.trans hb1
 clear hb1 hsz1
 cases oe with
 | none =>
  rw [show getV none = .tuple #[.string ⟨#[]⟩, .bool false] from rfl]
  have HR1 := zi (show R = #[.bool true, .bool false, .bool (ol.bind dateP).isSome, .bool false, .string ⟨#[]⟩, .int .i64 ((ol.bind dateP).getD 0)] from by rw [HR.out]; rfl)
  go_wp2_with fail
  refine (G2.out _ hE).mono ?_; rintro e w5 ⟨rfl, hb5⟩
  replace HB1 := zi (HB1.out.ext hb5); replace HB2 := zi (HB2.out.ext hb5); replace hE := hE.trans hb5
  cases ol with
  | none =>
   rw [show getV none = .tuple #[.string ⟨#[]⟩, .bool false] from rfl]
   have d0 : w5.cell? ⟨w.heap.size + 1, 0, none⟩ = some (.bool true) := HB2.out.cell 0
   have d1 : w5.cell? ⟨w.heap.size + 1, 1, none⟩ = some (.bool false) := HB2.out.cell 1
   have d2 : w5.cell? ⟨w.heap.size + 1, 2, none⟩ = some (.bool false) := HB2.out.cell 2
   have d3 : w5.cell? ⟨w.heap.size + 1, 3, none⟩ = some (.bool false) := HB2.out.cell 3
   have d4 : w5.cell? ⟨w.heap.size + 1, 4, none⟩ = some (.string ⟨#[]⟩) := HB2.out.cell 4
   have d5 : w5.cell? ⟨w.heap.size + 1, 5, none⟩ = some (.int .i64 0) := HB2.out.cell 5
   go_wp2_with (first | (refine wpList_storeB rfl 187 (.tmp 2) (.tmp 45) rfl rfl w.heap.size _ rfl rfl 187 _ HB1.out infoSt rfl (by simp [Value.oneCell']) ?_; intro w9 hB9 hx9))
   have y0 : w9.cell? ⟨w.heap.size, 0, none⟩ = some (.bool true) := hB9.cell 0
   have y1 : w9.cell? ⟨w.heap.size, 1, none⟩ = some (.bool false) := hB9.cell 1
   have y2 : w9.cell? ⟨w.heap.size, 2, none⟩ = some (.bool false) := hB9.cell 2
   have y3 : w9.cell? ⟨w.heap.size, 3, none⟩ = some (.bool false) := hB9.cell 3
   have y4 : w9.cell? ⟨w.heap.size, 4, none⟩ = some (.string ⟨#[]⟩) := hB9.cell 4
   have y5 : w9.cell? ⟨w.heap.size, 5, none⟩ = some (.int .i64 0) := hB9.cell 5
   exact bodyPost_ret (v := .agg #[.bool true, .bool false, .bool false, .bool false, .string ⟨#[]⟩, .int .i64 0]) (by simp [results, Tryz.results124, go_sem, y0, y1, y2, y3, y4, y5]) rfl ⟨by rw [HR1.out]; rfl, hE.growB hx9 (Nat.le_refl _)⟩
  | some u =>
   rw [show getV (some u) = .tuple #[.string u, .bool true] from rfl]
   have hu := V2.out u rfl
   go_wp2_with fail
   refine (HP.out _ hE u hu).mono ?_; rintro e w6 ⟨rfl, hb6⟩
   replace HB1 := zi (HB1.out.ext hb6); replace HB2 := zi (HB2.out.ext hb6); replace hE := hE.trans hb6
   cases hdp : dateP u with
   | none =>
    rw [show dpV none = .tuple #[.int .i64 0, .iface 63 (.int .i64 2)] from rfl]
    have d0 : w6.cell? ⟨w.heap.size + 1, 0, none⟩ = some (.bool true) := HB2.out.cell 0
    have d1 : w6.cell? ⟨w.heap.size + 1, 1, none⟩ = some (.bool false) := HB2.out.cell 1
    have d2 : w6.cell? ⟨w.heap.size + 1, 2, none⟩ = some (.bool false) := HB2.out.cell 2
    have d3 : w6.cell? ⟨w.heap.size + 1, 3, none⟩ = some (.bool false) := HB2.out.cell 3
    have d4 : w6.cell? ⟨w.heap.size + 1, 4, none⟩ = some (.string ⟨#[]⟩) := HB2.out.cell 4
    have d5 : w6.cell? ⟨w.heap.size + 1, 5, none⟩ = some (.int .i64 0) := HB2.out.cell 5
    go_wp2_with (first | (refine wpList_storeB rfl 187 (.tmp 2) (.tmp 45) rfl rfl w.heap.size _ rfl rfl 187 _ HB1.out infoSt rfl (by simp [Value.oneCell']) ?_; intro w9 hB9 hx9))
    have y0 : w9.cell? ⟨w.heap.size, 0, none⟩ = some (.bool true) := hB9.cell 0
    have y1 : w9.cell? ⟨w.heap.size, 1, none⟩ = some (.bool false) := hB9.cell 1
    have y2 : w9.cell? ⟨w.heap.size, 2, none⟩ = some (.bool false) := hB9.cell 2
    have y3 : w9.cell? ⟨w.heap.size, 3, none⟩ = some (.bool false) := hB9.cell 3
    have y4 : w9.cell? ⟨w.heap.size, 4, none⟩ = some (.string ⟨#[]⟩) := hB9.cell 4
    have y5 : w9.cell? ⟨w.heap.size, 5, none⟩ = some (.int .i64 0) := hB9.cell 5
    exact bodyPost_ret (v := .agg #[.bool true, .bool false, .bool false, .bool false, .string ⟨#[]⟩, .int .i64 0]) (by simp [results, Tryz.results124, go_sem, y0, y1, y2, y3, y4, y5]) rfl ⟨by rw [HR1.out, show (some u).bind dateP = dateP u from rfl, hdp]; rfl, hE.growB hx9 (Nat.le_refl _)⟩
   | some m =>
    rw [show dpV (some m) = .tuple #[.int .i64 m, .nilIface] from rfl]
    have e2 : w6.cell? ⟨w.heap.size + 1, 2, none⟩ = some (.bool false) := HB2.out.cell 2; have e5 : w6.cell? ⟨w.heap.size + 1, 5, none⟩ = some (.int .i64 0) := HB2.out.cell 5
    have g2 : w6.frozen? ⟨w.heap.size + 1, 2, none⟩ = false := HB2.out.frozen 2; have g5 : w6.frozen? ⟨w.heap.size + 1, 5, none⟩ = false := HB2.out.frozen 5
    have HB2 := zi (show Blk ((w6.setCell ⟨w.heap.size + 1, 2, none⟩ (.bool true)).setCell ⟨w.heap.size + 1, 5, none⟩ (.int .i64 m)) (w.heap.size + 1) 187 #[.bool true, .bool false, .bool true, .bool false, .string ⟨#[]⟩, .int .i64 m] from (HB2.out.set_ 2 _).set_ 5 _)
    have HB1 := zi (show Blk ((w6.setCell ⟨w.heap.size + 1, 2, none⟩ (.bool true)).setCell ⟨w.heap.size + 1, 5, none⟩ (.int .i64 m)) w.heap.size 187 #[.bool false, .bool false, .bool false, .bool false, .string ⟨#[]⟩, .int .i64 0] from (HB1.out.far (p := ⟨w.heap.size + 1, 2, none⟩) (by simp) _).far (p := ⟨w.heap.size + 1, 5, none⟩) (by simp) _)
    have hE := ((hE.setCell (p := ⟨w.heap.size + 1, 2, none⟩) (by simp) (.bool true)).setCell (p := ⟨w.heap.size + 1, 5, none⟩) (by simp) (.int .i64 m))
    go_upto_region 12 with fail
    clear e2 e5 g2 g5
    generalize ((w6.setCell ⟨w.heap.size + 1, 2, none⟩ (.bool true)).setCell ⟨w.heap.size + 1, 5, none⟩ (.int .i64 m)) = w7 at *
    have d0 : w7.cell? ⟨w.heap.size + 1, 0, none⟩ = some (.bool true) := HB2.out.cell 0
    have d1 : w7.cell? ⟨w.heap.size + 1, 1, none⟩ = some (.bool false) := HB2.out.cell 1
    have d2 : w7.cell? ⟨w.heap.size + 1, 2, none⟩ = some (.bool true) := HB2.out.cell 2
    have d3 : w7.cell? ⟨w.heap.size + 1, 3, none⟩ = some (.bool false) := HB2.out.cell 3
    have d4 : w7.cell? ⟨w.heap.size + 1, 4, none⟩ = some (.string ⟨#[]⟩) := HB2.out.cell 4
    have d5 : w7.cell? ⟨w.heap.size + 1, 5, none⟩ = some (.int .i64 m) := HB2.out.cell 5
    go_wp2_with (first | (refine wpList_storeB rfl 187 (.tmp 2) (.tmp 45) rfl rfl w.heap.size _ rfl rfl 187 _ HB1.out infoSt rfl (by simp [Value.oneCell']) ?_; intro w9 hB9 hx9))
    have y0 : w9.cell? ⟨w.heap.size, 0, none⟩ = some (.bool true) := hB9.cell 0
    have y1 : w9.cell? ⟨w.heap.size, 1, none⟩ = some (.bool false) := hB9.cell 1
    have y2 : w9.cell? ⟨w.heap.size, 2, none⟩ = some (.bool true) := hB9.cell 2
    have y3 : w9.cell? ⟨w.heap.size, 3, none⟩ = some (.bool false) := hB9.cell 3
    have y4 : w9.cell? ⟨w.heap.size, 4, none⟩ = some (.string ⟨#[]⟩) := hB9.cell 4
    have y5 : w9.cell? ⟨w.heap.size, 5, none⟩ = some (.int .i64 m) := hB9.cell 5
    exact bodyPost_ret (v := .agg #[.bool true, .bool false, .bool true, .bool false, .string ⟨#[]⟩, .int .i64 m]) (by simp [results, Tryz.results124, go_sem, y0, y1, y2, y3, y4, y5]) rfl ⟨by rw [HR1.out, show (some u).bind dateP = dateP u from rfl, hdp]; rfl, hE.growB hx9 (Nat.le_refl _)⟩
 | some v =>
  rw [show getV (some v) = .tuple #[.string v, .bool true] from rfl]
  go_wp2_with fail
  refine (val_ReadTag v _ (V1.out v rfl)).mono ?_; rintro e w2 ⟨rfl, hb2⟩
  replace HB1 := zi (HB1.out.ext hb2); replace HB2 := zi (HB2.out.ext hb2); replace hE := hE.trans hb2
  cases htg : tagS v with
  | none =>
   rw [show tagV none = .agg #[.bool false, .string ⟨#[]⟩] from rfl, show errV (tagE none) = .iface 63 (.int .i64 2) from rfl]
   replace HB1 := zi (HB1.out.alloc (.cells #[.bool false, .string ⟨#[]⟩] 185)); replace HB2 := zi (HB2.out.alloc (.cells #[.bool false, .string ⟨#[]⟩] 185)); replace hE := hE.alloc (.cells #[.bool false, .string ⟨#[]⟩] 185)
   have HR1 := zi (show R = #[.bool true, .bool false, .bool (ol.bind dateP).isSome, .bool false, .string ⟨#[]⟩, .int .i64 ((ol.bind dateP).getD 0)] from by rw [HR.out]; simp only [Option.bind_some, htg]; rfl)
   go_wp2_with fail
   refine (G2.out _ hE).mono ?_; rintro e w5 ⟨rfl, hb5⟩
   replace HB1 := zi (HB1.out.ext hb5); replace HB2 := zi (HB2.out.ext hb5); replace hE := hE.trans hb5
   cases ol with
   | none =>
    rw [show getV none = .tuple #[.string ⟨#[]⟩, .bool false] from rfl]
    have d0 : w5.cell? ⟨w.heap.size + 1, 0, none⟩ = some (.bool true) := HB2.out.cell 0
    have d1 : w5.cell? ⟨w.heap.size + 1, 1, none⟩ = some (.bool false) := HB2.out.cell 1
    have d2 : w5.cell? ⟨w.heap.size + 1, 2, none⟩ = some (.bool false) := HB2.out.cell 2
    have d3 : w5.cell? ⟨w.heap.size + 1, 3, none⟩ = some (.bool false) := HB2.out.cell 3
    have d4 : w5.cell? ⟨w.heap.size + 1, 4, none⟩ = some (.string ⟨#[]⟩) := HB2.out.cell 4
    have d5 : w5.cell? ⟨w.heap.size + 1, 5, none⟩ = some (.int .i64 0) := HB2.out.cell 5
    go_wp2_with (first | (refine wpList_storeB rfl 187 (.tmp 2) (.tmp 45) rfl rfl w.heap.size _ rfl rfl 187 _ HB1.out infoSt rfl (by simp [Value.oneCell']) ?_; intro w9 hB9 hx9))
    have y0 : w9.cell? ⟨w.heap.size, 0, none⟩ = some (.bool true) := hB9.cell 0
    have y1 : w9.cell? ⟨w.heap.size, 1, none⟩ = some (.bool false) := hB9.cell 1
    have y2 : w9.cell? ⟨w.heap.size, 2, none⟩ = some (.bool false) := hB9.cell 2
    have y3 : w9.cell? ⟨w.heap.size, 3, none⟩ = some (.bool false) := hB9.cell 3
    have y4 : w9.cell? ⟨w.heap.size, 4, none⟩ = some (.string ⟨#[]⟩) := hB9.cell 4
    have y5 : w9.cell? ⟨w.heap.size, 5, none⟩ = some (.int .i64 0) := hB9.cell 5
    exact bodyPost_ret (v := .agg #[.bool true, .bool false, .bool false, .bool false, .string ⟨#[]⟩, .int .i64 0]) (by simp [results, Tryz.results124, go_sem, y0, y1, y2, y3, y4, y5]) rfl ⟨by rw [HR1.out]; rfl, hE.growB hx9 (Nat.le_refl _)⟩
   | some u =>
    rw [show getV (some u) = .tuple #[.string u, .bool true] from rfl]
    have hu := V2.out u rfl
    go_wp2_with fail
    refine (HP.out _ hE u hu).mono ?_; rintro e w6 ⟨rfl, hb6⟩
    replace HB1 := zi (HB1.out.ext hb6); replace HB2 := zi (HB2.out.ext hb6); replace hE := hE.trans hb6
    cases hdp : dateP u with
    | none =>
     rw [show dpV none = .tuple #[.int .i64 0, .iface 63 (.int .i64 2)] from rfl]
     have d0 : w6.cell? ⟨w.heap.size + 1, 0, none⟩ = some (.bool true) := HB2.out.cell 0
     have d1 : w6.cell? ⟨w.heap.size + 1, 1, none⟩ = some (.bool false) := HB2.out.cell 1
     have d2 : w6.cell? ⟨w.heap.size + 1, 2, none⟩ = some (.bool false) := HB2.out.cell 2
     have d3 : w6.cell? ⟨w.heap.size + 1, 3, none⟩ = some (.bool false) := HB2.out.cell 3
     have d4 : w6.cell? ⟨w.heap.size + 1, 4, none⟩ = some (.string ⟨#[]⟩) := HB2.out.cell 4
     have d5 : w6.cell? ⟨w.heap.size + 1, 5, none⟩ = some (.int .i64 0) := HB2.out.cell 5
     go_wp2_with (first | (refine wpList_storeB rfl 187 (.tmp 2) (.tmp 45) rfl rfl w.heap.size _ rfl rfl 187 _ HB1.out infoSt rfl (by simp [Value.oneCell']) ?_; intro w9 hB9 hx9))
     have y0 : w9.cell? ⟨w.heap.size, 0, none⟩ = some (.bool true) := hB9.cell 0
     have y1 : w9.cell? ⟨w.heap.size, 1, none⟩ = some (.bool false) := hB9.cell 1
     have y2 : w9.cell? ⟨w.heap.size, 2, none⟩ = some (.bool false) := hB9.cell 2
     have y3 : w9.cell? ⟨w.heap.size, 3, none⟩ = some (.bool false) := hB9.cell 3
     have y4 : w9.cell? ⟨w.heap.size, 4, none⟩ = some (.string ⟨#[]⟩) := hB9.cell 4
     have y5 : w9.cell? ⟨w.heap.size, 5, none⟩ = some (.int .i64 0) := hB9.cell 5
     exact bodyPost_ret (v := .agg #[.bool true, .bool false, .bool false, .bool false, .string ⟨#[]⟩, .int .i64 0]) (by simp [results, Tryz.results124, go_sem, y0, y1, y2, y3, y4, y5]) rfl ⟨by rw [HR1.out, show (some u).bind dateP = dateP u from rfl, hdp]; rfl, hE.growB hx9 (Nat.le_refl _)⟩
    | some m =>
     rw [show dpV (some m) = .tuple #[.int .i64 m, .nilIface] from rfl]
     have e2 : w6.cell? ⟨w.heap.size + 1, 2, none⟩ = some (.bool false) := HB2.out.cell 2; have e5 : w6.cell? ⟨w.heap.size + 1, 5, none⟩ = some (.int .i64 0) := HB2.out.cell 5
     have g2 : w6.frozen? ⟨w.heap.size + 1, 2, none⟩ = false := HB2.out.frozen 2; have g5 : w6.frozen? ⟨w.heap.size + 1, 5, none⟩ = false := HB2.out.frozen 5
     have HB2 := zi (show Blk ((w6.setCell ⟨w.heap.size + 1, 2, none⟩ (.bool true)).setCell ⟨w.heap.size + 1, 5, none⟩ (.int .i64 m)) (w.heap.size + 1) 187 #[.bool true, .bool false, .bool true, .bool false, .string ⟨#[]⟩, .int .i64 m] from (HB2.out.set_ 2 _).set_ 5 _)
     have HB1 := zi (show Blk ((w6.setCell ⟨w.heap.size + 1, 2, none⟩ (.bool true)).setCell ⟨w.heap.size + 1, 5, none⟩ (.int .i64 m)) w.heap.size 187 #[.bool false, .bool false, .bool false, .bool false, .string ⟨#[]⟩, .int .i64 0] from (HB1.out.far (p := ⟨w.heap.size + 1, 2, none⟩) (by simp) _).far (p := ⟨w.heap.size + 1, 5, none⟩) (by simp) _)
     have hE := ((hE.setCell (p := ⟨w.heap.size + 1, 2, none⟩) (by simp) (.bool true)).setCell (p := ⟨w.heap.size + 1, 5, none⟩) (by simp) (.int .i64 m))
     go_upto_region 12 with fail
     clear e2 e5 g2 g5
     generalize ((w6.setCell ⟨w.heap.size + 1, 2, none⟩ (.bool true)).setCell ⟨w.heap.size + 1, 5, none⟩ (.int .i64 m)) = w7 at *
     have d0 : w7.cell? ⟨w.heap.size + 1, 0, none⟩ = some (.bool true) := HB2.out.cell 0
     have d1 : w7.cell? ⟨w.heap.size + 1, 1, none⟩ = some (.bool false) := HB2.out.cell 1
     have d2 : w7.cell? ⟨w.heap.size + 1, 2, none⟩ = some (.bool true) := HB2.out.cell 2
     have d3 : w7.cell? ⟨w.heap.size + 1, 3, none⟩ = some (.bool false) := HB2.out.cell 3
     have d4 : w7.cell? ⟨w.heap.size + 1, 4, none⟩ = some (.string ⟨#[]⟩) := HB2.out.cell 4
     have d5 : w7.cell? ⟨w.heap.size + 1, 5, none⟩ = some (.int .i64 m) := HB2.out.cell 5
     go_wp2_with (first | (refine wpList_storeB rfl 187 (.tmp 2) (.tmp 45) rfl rfl w.heap.size _ rfl rfl 187 _ HB1.out infoSt rfl (by simp [Value.oneCell']) ?_; intro w9 hB9 hx9))
     have y0 : w9.cell? ⟨w.heap.size, 0, none⟩ = some (.bool true) := hB9.cell 0
     have y1 : w9.cell? ⟨w.heap.size, 1, none⟩ = some (.bool false) := hB9.cell 1
     have y2 : w9.cell? ⟨w.heap.size, 2, none⟩ = some (.bool true) := hB9.cell 2
     have y3 : w9.cell? ⟨w.heap.size, 3, none⟩ = some (.bool false) := hB9.cell 3
     have y4 : w9.cell? ⟨w.heap.size, 4, none⟩ = some (.string ⟨#[]⟩) := hB9.cell 4
     have y5 : w9.cell? ⟨w.heap.size, 5, none⟩ = some (.int .i64 m) := hB9.cell 5
     exact bodyPost_ret (v := .agg #[.bool true, .bool false, .bool true, .bool false, .string ⟨#[]⟩, .int .i64 m]) (by simp [results, Tryz.results124, go_sem, y0, y1, y2, y3, y4, y5]) rfl ⟨by rw [HR1.out, show (some u).bind dateP = dateP u from rfl, hdp]; rfl, hE.growB hx9 (Nat.le_refl _)⟩
  | some t =>
   obtain ⟨tw, tt⟩ := t
   rw [show tagV (some (tw, tt)) = .agg #[.bool tw, .string tt] from rfl, show errV (tagE (some (tw, tt))) = .nilIface from rfl]
   have HB2b := HB2
   have HT := zi (Blk.new w2 185 #[.bool tw, .string tt])
   replace HB1 := zi (HB1.out.alloc (.cells #[.bool tw, .string tt] 185)); replace HB2 := zi (HB2.out.alloc (.cells #[.bool tw, .string tt] 185)); replace hE := hE.alloc (.cells #[.bool tw, .string tt] 185)
   have hne : w.heap.size + 1 ≠ w2.heap.size := by have := HB2b.out.lt; omega
   go_upto_region 6 with fail
   generalize w2.alloc (.cells #[.bool tw, .string tt] 185) = w3 at *
   generalize w2.heap.size = b6 at *
   have t0 : w3.cell? ⟨b6, 0, none⟩ = some (.bool tw) := HT.out.cell 0; have t1 : w3.cell? ⟨b6, 1, none⟩ = some (.string tt) := HT.out.cell 1
   refine wp_region_held_drew (S := (fun w' => w'.cell? ⟨b6, 0, none⟩ = some (.bool tw) ∧ w'.cell? ⟨b6, 1, none⟩ = some (.string tt))) (by kernel_rfl) ?_ (fun hHeld => ?_)
   ·(try dsimp only); exact ⟨t0, t1⟩
   refine zH (v := ?_) 0 (some 26) rfl ?_ ?_; rotate_left
   ·(intro w hSw; (try dsimp only at hSw); go_simp; (try with_reducible rfl))
   try simp only [zP]
   refine zH (v := ?_) 1 (some 27) rfl ?_ ?_; rotate_left
   ·(intro w hSw; (try dsimp only at hSw); go_simp; (try with_reducible rfl))
   try simp only [zP]
   refine wpAnyH_ready (rs := [2]) (by kernel_rfl) (by simp) ?_
   refine AllReadyH.cons (o := ⟨none, _, _, _, _, _⟩) rfl (fun K hK => ?_) AllReadyH.nil
   have e1 : w3.cell? ⟨w.heap.size + 1, 1, none⟩ = some (.bool false) := HB2.out.cell 1; have e3 : w3.cell? ⟨w.heap.size + 1, 3, none⟩ = some (.bool false) := HB2.out.cell 3; have e4 : w3.cell? ⟨w.heap.size + 1, 4, none⟩ = some (.string ⟨#[]⟩) := HB2.out.cell 4; have g1 : w3.frozen? ⟨w.heap.size + 1, 1, none⟩ = false := HB2.out.frozen 1; have g3 : w3.frozen? ⟨w.heap.size + 1, 3, none⟩ = false := HB2.out.frozen 3; have g4 : w3.frozen? ⟨w.heap.size + 1, 4, none⟩ = false := HB2.out.frozen 4
   go_simp
   try go_wp2_with fail
   refine hK.out _ _ ?_ (fun hHeld => ?_)
   ·(try dsimp only); exact ⟨far_cell t0 hne, far_cell t1 hne⟩
   clear hK K
   try simp only [zP]
   refine zH (v := ?_) 3 (some 28) rfl ?_ ?_; rotate_left
   ·(intro w hSw; (try dsimp only at hSw); go_simp; (try with_reducible rfl))
   try simp only [zP]
   refine wpAnyH_ready (rs := [4]) (by kernel_rfl) (by simp) ?_
   refine AllReadyH.cons (o := ⟨none, _, _, _, _, _⟩) rfl (fun K hK => ?_) AllReadyH.nil
   go_simp
   try go_wp2_with fail
   refine hK.out _ _ ?_ (fun hHeld => ?_)
   ·(try dsimp only); exact ⟨far_cell (far_cell (far_cell t0 hne) hne) hne, far_cell (far_cell (far_cell t1 hne) hne) hne⟩
   clear hK K
   try simp only [zP]
   refine wpAnyH_done (by kernel_rfl) ?_ _
   have HB2n := zi (show Blk (((w3.setCell ⟨w.heap.size + 1, 1, none⟩ (.bool true)).setCell ⟨w.heap.size + 1, 3, none⟩ (.bool tw)).setCell ⟨w.heap.size + 1, 4, none⟩ (.string tt)) (w.heap.size + 1) 187 #[.bool true, .bool true, .bool false, .bool tw, .string tt, .int .i64 0] from ((HB2.out.set_ 1 _).set_ 3 _).set_ 4 _)
   have HB1n := zi (show Blk (((w3.setCell ⟨w.heap.size + 1, 1, none⟩ (.bool true)).setCell ⟨w.heap.size + 1, 3, none⟩ (.bool tw)).setCell ⟨w.heap.size + 1, 4, none⟩ (.string tt)) w.heap.size 187 #[.bool false, .bool false, .bool false, .bool false, .string ⟨#[]⟩, .int .i64 0] from ((HB1.out.far (p := ⟨w.heap.size + 1, 1, none⟩) (by simp) _).far (p := ⟨w.heap.size + 1, 3, none⟩) (by simp) _).far (p := ⟨w.heap.size + 1, 4, none⟩) (by simp) _)
   have hEn := (((hE.setCell (p := ⟨w.heap.size + 1, 1, none⟩) (by simp) (.bool true)).setCell (p := ⟨w.heap.size + 1, 3, none⟩) (by simp) (.bool tw)).setCell (p := ⟨w.heap.size + 1, 4, none⟩) (by simp) (.string tt))
   clear e1 e3 e4 g1 g3 g4 t0 t1 HB1 HB2 hE
   have HB1 := HB1n; have HB2 := HB2n; have hE := hEn
   change Ext w (((w3.setCell ⟨w.heap.size + 1, 1, none⟩ (.bool true)).setCell ⟨w.heap.size + 1, 3, none⟩ (.bool tw)).setCell ⟨w.heap.size + 1, 4, none⟩ (.string tt)) at hE
   generalize (((w3.setCell ⟨w.heap.size + 1, 1, none⟩ (.bool true)).setCell ⟨w.heap.size + 1, 3, none⟩ (.bool tw)).setCell ⟨w.heap.size + 1, 4, none⟩ (.string tt)) = w4' at *
   replace hE := hE.drew
   have HB1 := zi (HB1.out.drew)
   have HB2 := zi (HB2.out.drew)
   generalize w4'.drew = w4 at *
   have HR1 := zi (show R = #[.bool true, .bool true, .bool (ol.bind dateP).isSome, .bool tw, .string tt, .int .i64 ((ol.bind dateP).getD 0)] from by rw [HR.out]; simp only [Option.bind_some, htg]; rfl)
   go_wp2_with fail
   refine (G2.out _ hE).mono ?_; rintro e w5 ⟨rfl, hb5⟩
   replace HB1 := zi (HB1.out.ext hb5); replace HB2 := zi (HB2.out.ext hb5); replace hE := hE.trans hb5
   cases ol with
   | none =>
    rw [show getV none = .tuple #[.string ⟨#[]⟩, .bool false] from rfl]
    have d0 : w5.cell? ⟨w.heap.size + 1, 0, none⟩ = some (.bool true) := HB2.out.cell 0
    have d1 : w5.cell? ⟨w.heap.size + 1, 1, none⟩ = some (.bool true) := HB2.out.cell 1
    have d2 : w5.cell? ⟨w.heap.size + 1, 2, none⟩ = some (.bool false) := HB2.out.cell 2
    have d3 : w5.cell? ⟨w.heap.size + 1, 3, none⟩ = some (.bool tw) := HB2.out.cell 3
    have d4 : w5.cell? ⟨w.heap.size + 1, 4, none⟩ = some (.string tt) := HB2.out.cell 4
    have d5 : w5.cell? ⟨w.heap.size + 1, 5, none⟩ = some (.int .i64 0) := HB2.out.cell 5
    go_wp2_with (first | (refine wpList_storeB rfl 187 (.tmp 2) (.tmp 45) rfl rfl w.heap.size _ rfl rfl 187 _ HB1.out infoSt rfl (by simp [Value.oneCell']) ?_; intro w9 hB9 hx9))
    have y0 : w9.cell? ⟨w.heap.size, 0, none⟩ = some (.bool true) := hB9.cell 0
    have y1 : w9.cell? ⟨w.heap.size, 1, none⟩ = some (.bool true) := hB9.cell 1
    have y2 : w9.cell? ⟨w.heap.size, 2, none⟩ = some (.bool false) := hB9.cell 2
    have y3 : w9.cell? ⟨w.heap.size, 3, none⟩ = some (.bool tw) := hB9.cell 3
    have y4 : w9.cell? ⟨w.heap.size, 4, none⟩ = some (.string tt) := hB9.cell 4
    have y5 : w9.cell? ⟨w.heap.size, 5, none⟩ = some (.int .i64 0) := hB9.cell 5
    exact bodyPost_ret (v := .agg #[.bool true, .bool true, .bool false, .bool tw, .string tt, .int .i64 0]) (by simp [results, Tryz.results124, go_sem, y0, y1, y2, y3, y4, y5]) rfl ⟨by rw [HR1.out]; rfl, hE.growB hx9 (Nat.le_refl _)⟩
   | some u =>
    rw [show getV (some u) = .tuple #[.string u, .bool true] from rfl]
    have hu := V2.out u rfl
    go_wp2_with fail
    refine (HP.out _ hE u hu).mono ?_; rintro e w6 ⟨rfl, hb6⟩
    replace HB1 := zi (HB1.out.ext hb6); replace HB2 := zi (HB2.out.ext hb6); replace hE := hE.trans hb6
    cases hdp : dateP u with
    | none =>
     rw [show dpV none = .tuple #[.int .i64 0, .iface 63 (.int .i64 2)] from rfl]
     have d0 : w6.cell? ⟨w.heap.size + 1, 0, none⟩ = some (.bool true) := HB2.out.cell 0
     have d1 : w6.cell? ⟨w.heap.size + 1, 1, none⟩ = some (.bool true) := HB2.out.cell 1
     have d2 : w6.cell? ⟨w.heap.size + 1, 2, none⟩ = some (.bool false) := HB2.out.cell 2
     have d3 : w6.cell? ⟨w.heap.size + 1, 3, none⟩ = some (.bool tw) := HB2.out.cell 3
     have d4 : w6.cell? ⟨w.heap.size + 1, 4, none⟩ = some (.string tt) := HB2.out.cell 4
     have d5 : w6.cell? ⟨w.heap.size + 1, 5, none⟩ = some (.int .i64 0) := HB2.out.cell 5
     go_wp2_with (first | (refine wpList_storeB rfl 187 (.tmp 2) (.tmp 45) rfl rfl w.heap.size _ rfl rfl 187 _ HB1.out infoSt rfl (by simp [Value.oneCell']) ?_; intro w9 hB9 hx9))
     have y0 : w9.cell? ⟨w.heap.size, 0, none⟩ = some (.bool true) := hB9.cell 0
     have y1 : w9.cell? ⟨w.heap.size, 1, none⟩ = some (.bool true) := hB9.cell 1
     have y2 : w9.cell? ⟨w.heap.size, 2, none⟩ = some (.bool false) := hB9.cell 2
     have y3 : w9.cell? ⟨w.heap.size, 3, none⟩ = some (.bool tw) := hB9.cell 3
     have y4 : w9.cell? ⟨w.heap.size, 4, none⟩ = some (.string tt) := hB9.cell 4
     have y5 : w9.cell? ⟨w.heap.size, 5, none⟩ = some (.int .i64 0) := hB9.cell 5
     exact bodyPost_ret (v := .agg #[.bool true, .bool true, .bool false, .bool tw, .string tt, .int .i64 0]) (by simp [results, Tryz.results124, go_sem, y0, y1, y2, y3, y4, y5]) rfl ⟨by rw [HR1.out, show (some u).bind dateP = dateP u from rfl, hdp]; rfl, hE.growB hx9 (Nat.le_refl _)⟩
    | some m =>
     rw [show dpV (some m) = .tuple #[.int .i64 m, .nilIface] from rfl]
     have e2 : w6.cell? ⟨w.heap.size + 1, 2, none⟩ = some (.bool false) := HB2.out.cell 2; have e5 : w6.cell? ⟨w.heap.size + 1, 5, none⟩ = some (.int .i64 0) := HB2.out.cell 5
     have g2 : w6.frozen? ⟨w.heap.size + 1, 2, none⟩ = false := HB2.out.frozen 2; have g5 : w6.frozen? ⟨w.heap.size + 1, 5, none⟩ = false := HB2.out.frozen 5
     have HB2 := zi (show Blk ((w6.setCell ⟨w.heap.size + 1, 2, none⟩ (.bool true)).setCell ⟨w.heap.size + 1, 5, none⟩ (.int .i64 m)) (w.heap.size + 1) 187 #[.bool true, .bool true, .bool true, .bool tw, .string tt, .int .i64 m] from (HB2.out.set_ 2 _).set_ 5 _)
     have HB1 := zi (show Blk ((w6.setCell ⟨w.heap.size + 1, 2, none⟩ (.bool true)).setCell ⟨w.heap.size + 1, 5, none⟩ (.int .i64 m)) w.heap.size 187 #[.bool false, .bool false, .bool false, .bool false, .string ⟨#[]⟩, .int .i64 0] from (HB1.out.far (p := ⟨w.heap.size + 1, 2, none⟩) (by simp) _).far (p := ⟨w.heap.size + 1, 5, none⟩) (by simp) _)
     have hE := ((hE.setCell (p := ⟨w.heap.size + 1, 2, none⟩) (by simp) (.bool true)).setCell (p := ⟨w.heap.size + 1, 5, none⟩) (by simp) (.int .i64 m))
     go_upto_region 12 with fail
     clear e2 e5 g2 g5
     generalize ((w6.setCell ⟨w.heap.size + 1, 2, none⟩ (.bool true)).setCell ⟨w.heap.size + 1, 5, none⟩ (.int .i64 m)) = w7 at *
     have d0 : w7.cell? ⟨w.heap.size + 1, 0, none⟩ = some (.bool true) := HB2.out.cell 0
     have d1 : w7.cell? ⟨w.heap.size + 1, 1, none⟩ = some (.bool true) := HB2.out.cell 1
     have d2 : w7.cell? ⟨w.heap.size + 1, 2, none⟩ = some (.bool true) := HB2.out.cell 2
     have d3 : w7.cell? ⟨w.heap.size + 1, 3, none⟩ = some (.bool tw) := HB2.out.cell 3
     have d4 : w7.cell? ⟨w.heap.size + 1, 4, none⟩ = some (.string tt) := HB2.out.cell 4
     have d5 : w7.cell? ⟨w.heap.size + 1, 5, none⟩ = some (.int .i64 m) := HB2.out.cell 5
     go_wp2_with (first | (refine wpList_storeB rfl 187 (.tmp 2) (.tmp 45) rfl rfl w.heap.size _ rfl rfl 187 _ HB1.out infoSt rfl (by simp [Value.oneCell']) ?_; intro w9 hB9 hx9))
     have y0 : w9.cell? ⟨w.heap.size, 0, none⟩ = some (.bool true) := hB9.cell 0
     have y1 : w9.cell? ⟨w.heap.size, 1, none⟩ = some (.bool true) := hB9.cell 1
     have y2 : w9.cell? ⟨w.heap.size, 2, none⟩ = some (.bool true) := hB9.cell 2
     have y3 : w9.cell? ⟨w.heap.size, 3, none⟩ = some (.bool tw) := hB9.cell 3
     have y4 : w9.cell? ⟨w.heap.size, 4, none⟩ = some (.string tt) := hB9.cell 4
     have y5 : w9.cell? ⟨w.heap.size, 5, none⟩ = some (.int .i64 m) := hB9.cell 5
     exact bodyPost_ret (v := .agg #[.bool true, .bool true, .bool true, .bool tw, .string tt, .int .i64 m]) (by simp [results, Tryz.results124, go_sem, y0, y1, y2, y3, y4, y5]) rfl ⟨by rw [HR1.out, show (some u).bind dateP = dateP u from rfl, hdp]; rfl, hE.growB hx9 (Nat.le_refl _)⟩
end Go.Proofs.YtmckbcbdnckngaaGreatDoor

namespace Go.Proofs.YtmckbcbdnckngaaGreatDoor
open Go.RowKit

def kpJ (nm : ByteArray) (j : Nat) : Bool := (keptN.take j).any (· == nm)
theorem kpJ_step (nm : ByteArray) (j : Nat) (x : ByteArray) (h : keptN[j]? = some x) : kpJ nm (j + 1) = (kpJ nm j || x == nm) := by
 unfold kpJ
 rw [List.take_add_one, h]; simp
theorem kpJ_end (nm : ByteArray) : kpJ nm 6 = keptN.any (· == nm) := rfl
theorem wpList_appB {P : Program} (w : World) (base : Nat) (hbs : base ≤ w.heap.size) {ops : Array Oper} {rest : List Oper} {o : Oper} {a : Act} {Q : Exit → Act → World → Prop} (hgd : o.guard = none) (s x : Operand) (t : TypeId)
  (ho : o.op = .call { callee := .builtin .append, args := #[s, x], argTypes := #[t, t] })
  (e : TypeId) (z : Value) (size bytes : Nat) (ht : P.underlying t = some (.slice e))
  (hinfo : (P.info? e).map (fun i => (i.zero, i.size, i.bytes)) = some (some z, size, bytes)) (hzs : z.cells.size = size) (hsz : 0 < size)
  (v : Value) (n : Nat) (xs : List Value) (hs : a.eval s = v) (hown : w.ownsRow base e size v n xs)
  (ad : Addr) (m c : Nat) (news : List Value) (hx : a.eval x = .slice (some ad) m c) (hl : news.length = m * size) (hnews : ∀ j u, news[j]? = some u → w.cell? (ad.add j) = some u) (h1 : ∀ u ∈ news, u.oneCell' = true)
  (hbytes : (n + m) * bytes ≤ 140737488355328) (hby0 : 0 < bytes)
  (h : ∀ A' c' w', w'.ownsRow base e size (.slice A' (n + m) c') (n + m) (xs ++ news) → n + m ≤ c' → w.grownBy w' v.ownBlock → ((Value.slice A' (n + m) c').ownBlock = v.ownBlock ∨ (Value.slice A' (n + m) c').ownBlock = some w.heap.size) → wpList P ops Q rest (a.put o.dst (.slice A' (n + m) c')) w') : wpList P ops Q (o :: rest) a w := by
 have h63 : n + m ≤ maxLen := by
  have : (n + m) * 1 ≤ (n + m) * bytes := Nat.mul_le_mul_left _ hby0
  simp only [maxLen]; omega
 obtain ⟨i, hi, hz, hsize, hby⟩ := info_parts hinfo
 refine wpList_append_own_at w hgd s x t ho base e i z size bytes ht hi hz hsize hby hzs hsz v n xs hs hown ad m c news hx hl hnews h1 h63 hbytes hbs ?_
 intro v' w' h2 h3 _ h5
 obtain ⟨A', c', rfl, hle⟩ := own_shape h2
 exact h A' c' w' h2 hle h3 h5
theorem law_Kept (A : Option Addr) (n c : Nat) (fs : List Fd) (w : World) (hf : RdF w A n fs) (hn : n ≤ 1073741824) :
  Calls Tryz.prog 125 #[.slice A n c] w fun e w' => ∃ s : Sl, e = .returned s.v ∧ RS (fun i => i < w.heap.size) w' 2 s (fldCells (kptS fs)) ∧ Ext w w' := by
 have hl := hf.lenF
 have Hl := zi hl; clear hl
 go_enter Tryz.func125, Tryz.ntmps125
 go_wp2_with fail
 go_loopw [3, 10] (fun v i wr => ∃ k m A' c', k ≤ n ∧ i = .int .i64 (k : Nat) ∧ v = .slice A' m c' ∧ wr.ownsRow w.heap.size 51 2 (.slice A' m c') m (fldCells (kptS (fs.take k))) ∧ m ≤ c' ∧ Ext w wr) (fun _ i _ => n - (intOf i).toNat)
 case atStart => exact ⟨0, 0, none, 0, Nat.zero_le _, rfl, rfl, World.ownsRow_nil _ _ _ _, Nat.le_refl _, Ext.refl _⟩
 case round =>
  obtain ⟨k, m, A', c', hk, rfl, rfl, hown, hmc, hbr⟩ := hrel
  by_cases hlt : k < n
  ·have hlt' : k < fs.length := by have := Hl.out; omega
   obtain ⟨b, o, rfl, hc0, hc1⟩ := (hf.ext hbr).atF hlt'
   have Hy := zi (fun h => kpt_yes hlt' h); have Hno := zi (fun h => kpt_no hlt' h)
   have Hkl := zi (kpt_len fs k)
   generalize hx : fs[k] = x at *
   obtain ⟨nm, vl⟩ := x
   simp only at hc0 hc1
   clear hx
   have HB := zi ((Blk.new wr 51 #[.string nm, .string vl]).alloc (.cells #[.string ⟨#[99, 97, 99, 104, 101, 45, 99, 111, 110, 116, 114, 111, 108]⟩, .string ⟨#[101, 116, 97, 103]⟩, .string ⟨#[101, 120, 112, 105, 114, 101, 115]⟩, .string ⟨#[108, 97, 115, 116, 45, 109, 111, 100, 105, 102, 105, 101, 100]⟩, .string ⟨#[115, 117, 114, 114, 111, 103, 97, 116, 101, 45, 107, 101, 121]⟩, .string ⟨#[118, 97, 114, 121]⟩] 9))
   have hsz : (wr.alloc (.cells #[.string nm, .string vl] 51)).heap.size = wr.heap.size + 1 := by simp
   have hBn := Blk.new (wr.alloc (.cells #[.string nm, .string vl] 51)) 9 #[.string ⟨#[99, 97, 99, 104, 101, 45, 99, 111, 110, 116, 114, 111, 108]⟩, .string ⟨#[101, 116, 97, 103]⟩, .string ⟨#[101, 120, 112, 105, 114, 101, 115]⟩, .string ⟨#[108, 97, 115, 116, 45, 109, 111, 100, 105, 102, 105, 101, 100]⟩, .string ⟨#[115, 117, 114, 114, 111, 103, 97, 116, 101, 45, 107, 101, 121]⟩, .string ⟨#[118, 97, 114, 121]⟩]
   rw [hsz] at hBn
   have HBn := zi hBn
   have HE := zi ((hbr.alloc (.cells #[.string nm, .string vl] 51)).alloc (.cells #[.string ⟨#[99, 97, 99, 104, 101, 45, 99, 111, 110, 116, 114, 111, 108]⟩, .string ⟨#[101, 116, 97, 103]⟩, .string ⟨#[101, 120, 112, 105, 114, 101, 115]⟩, .string ⟨#[108, 97, 115, 116, 45, 109, 111, 100, 105, 102, 105, 101, 100]⟩, .string ⟨#[115, 117, 114, 114, 111, 103, 97, 116, 101, 45, 107, 101, 121]⟩, .string ⟨#[118, 97, 114, 121]⟩] 9))
   have HO := zi ((hown.alloc (.cells #[.string nm, .string vl] 51)).alloc (.cells #[.string ⟨#[99, 97, 99, 104, 101, 45, 99, 111, 110, 116, 114, 111, 108]⟩, .string ⟨#[101, 116, 97, 103]⟩, .string ⟨#[101, 120, 112, 105, 114, 101, 115]⟩, .string ⟨#[108, 97, 115, 116, 45, 109, 111, 100, 105, 102, 105, 101, 100]⟩, .string ⟨#[115, 117, 114, 114, 111, 103, 97, 116, 101, 45, 107, 101, 121]⟩, .string ⟨#[118, 97, 114, 121]⟩] 9))
   have Hlow := zi (fun g hg => (hown.lt g hg).2)
   clear hBn hown hbr
   go_wp2_with fail
   clear hc0 hc1
   generalize (wr.alloc (.cells #[.string nm, .string vl] 51)).alloc (.cells #[.string ⟨#[99, 97, 99, 104, 101, 45, 99, 111, 110, 116, 114, 111, 108]⟩, .string ⟨#[101, 116, 97, 103]⟩, .string ⟨#[101, 120, 112, 105, 114, 101, 115]⟩, .string ⟨#[108, 97, 115, 116, 45, 109, 111, 100, 105, 102, 105, 101, 100]⟩, .string ⟨#[115, 117, 114, 114, 111, 103, 97, 116, 101, 45, 107, 101, 121]⟩, .string ⟨#[118, 97, 114, 121]⟩] 9) = W1 at *
   go_loopw [3, 16] (fun v i wq => ∃ j m2 A2 c2, j ≤ 6 ∧ i = .int .i64 (j : Nat) ∧ v = .slice A2 m2 c2 ∧ wq.ownsRow w.heap.size 51 2 (.slice A2 m2 c2) m2 (fldCells (kptS (fs.take k) ++ if kpJ nm j then [(nm, vl)] else [])) ∧ m2 ≤ c2 ∧ Blk wq wr.heap.size 51 #[.string nm, .string vl] ∧ Blk wq (wr.heap.size + 1) 9 #[.string ⟨#[99, 97, 99, 104, 101, 45, 99, 111, 110, 116, 114, 111, 108]⟩, .string ⟨#[101, 116, 97, 103]⟩, .string ⟨#[101, 120, 112, 105, 114, 101, 115]⟩, .string ⟨#[108, 97, 115, 116, 45, 109, 111, 100, 105, 102, 105, 101, 100]⟩, .string ⟨#[115, 117, 114, 114, 111, 103, 97, 116, 101, 45, 107, 101, 121]⟩, .string ⟨#[118, 97, 114, 121]⟩] ∧ (∀ g, (Value.slice A2 m2 c2).ownBlock = some g → g < wr.heap.size ∨ wr.heap.size + 2 ≤ g) ∧ Ext w wq) (fun _ i _ => 6 - (intOf i).toNat)
   case atStart => exact ⟨0, m, A', c', by omega, rfl, rfl, by rw [show kpJ nm 0 = false from rfl]; simp only [Bool.false_eq_true, if_false, List.append_nil]; exact HO.out, hmc, HB.out, HBn.out, fun g hg => .inl (Hlow.out g hg), HE.out⟩
   case round =>
    obtain ⟨j, m2, A2, c2, hj, rfl, rfl, hown2, hmc2, hBa, hBb, hgo, hE2⟩ := hrel
    have hb0 := hBa.cell 0; have hb1 := hBa.cell 1; have HBa := zi hBa; have HBb := zi hBb; have Hgo := zi hgo; clear hBa hBb hgo
    simp only [List.getElem?_toArray, List.getElem?_cons_succ, List.getElem?_cons_zero] at hb0 hb1
    have hm2 : m2 ≤ k + 1 := by
     have h1 := hown2.1
     rw [fldCells_len, List.length_append] at h1
     have h2 := Hkl.out
     have h3 : (if kpJ nm j then [(nm, vl)] else []).length ≤ 1 := by split <;> simp
     omega
    by_cases hj6 : j = 6
    ·subst hj6
     have hR : kptS (fs.take k) ++ (if kpJ nm 6 then [(nm, vl)] else []) = kptS (fs.take (k + 1)) := by
      rw [kpJ_end]
      by_cases h : keptN.any (· == nm) = true
      ·rw [if_pos h, Hy.out h]
      ·rw [if_neg h, Hno.out (Bool.eq_false_iff.2 h), List.append_nil]
     rw [hR] at hown2
     have HO2 := zi hown2
     clear hown2 hR hb0 hb1
     go_wp2_with fail
     first | go_roundw | refine ⟨?rel, ?measure⟩
     case rel => exact ⟨k + 1, m2, A2, c2, by omega, by go_num, rfl, HO2.out, hmc2, hE2⟩
     case measure => simp [intOf]; omega
    by_cases hj0 : j = 0
    ·subst hj0
     have hn0 := HBb.out.cell 0
     simp only [List.getElem?_toArray, List.getElem?_cons_succ, List.getElem?_cons_zero] at hn0
     have Hst := zi (kpJ_step nm 0 x_cc rfl)
     cases q : (nm.toList == [99, 97, 99, 104, 101, 45, 99, 111, 110, 116, 114, 111, 108])
     ·have hP : kpJ nm 1 = kpJ nm 0 := by
       rw [Hst.out, show (x_cc == nm) = false from by rw [beqB, decide_eq_false_iff_not]; intro e; rw [← e] at q; exact absurd q (by decide +kernel)]; simp
      rw [← hP] at hown2
      have HO2 := zi hown2
      clear hown2 hP
      go_wp2_with fail
      first | go_roundw | refine ⟨?rel, ?measure⟩
      case rel => exact ⟨1, m2, A2, c2, by omega, by go_num, rfl, HO2.out, hmc2, HBa.out, HBb.out, Hgo.out, hE2⟩
      case measure => simp [intOf]
     ·have hnm : nm = x_cc := eqS_iff.1 (by rw [show x_cc.toList = [99, 97, 99, 104, 101, 45, 99, 111, 110, 116, 114, 111, 108] by decide +kernel]; exact q)
      have hP0 : kpJ nm 0 = false := by rw [hnm]; decide +kernel
      have hP1 : kpJ nm 1 = true := by rw [hnm]; decide +kernel
      rw [hP0] at hown2
      simp only [Bool.false_eq_true, if_false, List.append_nil] at hown2
      have HP1 := zi hP1
      clear hnm hP0 hP1
      go_wp2_with (at_builtin; refine wpList_appB _ w.heap.size (hE2.alloc _).size rfl _ _ 33 rfl 51 _ 2 32 Tryz.underlying33 info_cln_F (by simp [Value.cells]) (by decide) _ _ _ rfl (hown2.alloc _) _ 1 1 (fldCells [(nm, vl)]) rfl rfl (cell_two_new _ _ _ _) (fldCells_one [(nm, vl)]) (by omega) (by decide) ?_; intro A7 c7 w7 hown7 hle7 hg7 hn7)
      first | go_roundw | refine ⟨?rel, ?measure⟩
      case rel =>
       refine ⟨1, m2 + 1, A7, c7, by omega, by go_num, rfl, by rw [HP1.out, if_pos rfl, fldCells_app]; exact hown7, hle7, (HBa.out.alloc _).grown hg7 (fun e => ?_), (HBb.out.alloc _).grown hg7 (fun e => ?_), fun g hg => ?_, ?_⟩
       ·have := Hgo.out _ e.symm; omega
       ·have := Hgo.out _ e.symm; omega
       ·rcases hn7 with e | e
        ·rw [e] at hg; exact Hgo.out g hg
        ·rw [e] at hg; injection hg with hg; have h1 := HBb.out.lt; right; rw [← hg]; simp only [World.size_alloc]; omega
       ·exact (hE2.alloc _).grown hg7 (fun k hk => (hown2.lt k hk).1)
      case measure => simp [intOf]
    by_cases hj1 : j = 1
    ·subst hj1
     have hn0 := HBb.out.cell 1
     simp only [List.getElem?_toArray, List.getElem?_cons_succ, List.getElem?_cons_zero] at hn0
     have Hst := zi (kpJ_step nm 1 x_et rfl)
     cases q : (nm.toList == [101, 116, 97, 103])
     ·have hP : kpJ nm 2 = kpJ nm 1 := by
       rw [Hst.out, show (x_et == nm) = false from by rw [beqB, decide_eq_false_iff_not]; intro e; rw [← e] at q; exact absurd q (by decide +kernel)]; simp
      rw [← hP] at hown2
      have HO2 := zi hown2
      clear hown2 hP
      go_wp2_with fail
      first | go_roundw | refine ⟨?rel, ?measure⟩
      case rel => exact ⟨2, m2, A2, c2, by omega, by go_num, rfl, HO2.out, hmc2, HBa.out, HBb.out, Hgo.out, hE2⟩
      case measure => simp [intOf]
     ·have hnm : nm = x_et := eqS_iff.1 (by rw [show x_et.toList = [101, 116, 97, 103] by decide +kernel]; exact q)
      have hP0 : kpJ nm 1 = false := by rw [hnm]; decide +kernel
      have hP1 : kpJ nm 2 = true := by rw [hnm]; decide +kernel
      rw [hP0] at hown2
      simp only [Bool.false_eq_true, if_false, List.append_nil] at hown2
      have HP1 := zi hP1
      clear hnm hP0 hP1
      go_wp2_with (at_builtin; refine wpList_appB _ w.heap.size (hE2.alloc _).size rfl _ _ 33 rfl 51 _ 2 32 Tryz.underlying33 info_cln_F (by simp [Value.cells]) (by decide) _ _ _ rfl (hown2.alloc _) _ 1 1 (fldCells [(nm, vl)]) rfl rfl (cell_two_new _ _ _ _) (fldCells_one [(nm, vl)]) (by omega) (by decide) ?_; intro A7 c7 w7 hown7 hle7 hg7 hn7)
      first | go_roundw | refine ⟨?rel, ?measure⟩
      case rel =>
       refine ⟨2, m2 + 1, A7, c7, by omega, by go_num, rfl, by rw [HP1.out, if_pos rfl, fldCells_app]; exact hown7, hle7, (HBa.out.alloc _).grown hg7 (fun e => ?_), (HBb.out.alloc _).grown hg7 (fun e => ?_), fun g hg => ?_, ?_⟩
       ·have := Hgo.out _ e.symm; omega
       ·have := Hgo.out _ e.symm; omega
       ·rcases hn7 with e | e
        ·rw [e] at hg; exact Hgo.out g hg
        ·rw [e] at hg; injection hg with hg; have h1 := HBb.out.lt; right; rw [← hg]; simp only [World.size_alloc]; omega
       ·exact (hE2.alloc _).grown hg7 (fun k hk => (hown2.lt k hk).1)
      case measure => simp [intOf]
    by_cases hj2 : j = 2
    ·subst hj2
     have hn0 := HBb.out.cell 2
     simp only [List.getElem?_toArray, List.getElem?_cons_succ, List.getElem?_cons_zero] at hn0
     have Hst := zi (kpJ_step nm 2 x_ex rfl)
     cases q : (nm.toList == [101, 120, 112, 105, 114, 101, 115])
     ·have hP : kpJ nm 3 = kpJ nm 2 := by
       rw [Hst.out, show (x_ex == nm) = false from by rw [beqB, decide_eq_false_iff_not]; intro e; rw [← e] at q; exact absurd q (by decide +kernel)]; simp
      rw [← hP] at hown2
      have HO2 := zi hown2
      clear hown2 hP
      go_wp2_with fail
      first | go_roundw | refine ⟨?rel, ?measure⟩
      case rel => exact ⟨3, m2, A2, c2, by omega, by go_num, rfl, HO2.out, hmc2, HBa.out, HBb.out, Hgo.out, hE2⟩
      case measure => simp [intOf]
     ·have hnm : nm = x_ex := eqS_iff.1 (by rw [show x_ex.toList = [101, 120, 112, 105, 114, 101, 115] by decide +kernel]; exact q)
      have hP0 : kpJ nm 2 = false := by rw [hnm]; decide +kernel
      have hP1 : kpJ nm 3 = true := by rw [hnm]; decide +kernel
      rw [hP0] at hown2
      simp only [Bool.false_eq_true, if_false, List.append_nil] at hown2
      have HP1 := zi hP1
      clear hnm hP0 hP1
      go_wp2_with (at_builtin; refine wpList_appB _ w.heap.size (hE2.alloc _).size rfl _ _ 33 rfl 51 _ 2 32 Tryz.underlying33 info_cln_F (by simp [Value.cells]) (by decide) _ _ _ rfl (hown2.alloc _) _ 1 1 (fldCells [(nm, vl)]) rfl rfl (cell_two_new _ _ _ _) (fldCells_one [(nm, vl)]) (by omega) (by decide) ?_; intro A7 c7 w7 hown7 hle7 hg7 hn7)
      first | go_roundw | refine ⟨?rel, ?measure⟩
      case rel =>
       refine ⟨3, m2 + 1, A7, c7, by omega, by go_num, rfl, by rw [HP1.out, if_pos rfl, fldCells_app]; exact hown7, hle7, (HBa.out.alloc _).grown hg7 (fun e => ?_), (HBb.out.alloc _).grown hg7 (fun e => ?_), fun g hg => ?_, ?_⟩
       ·have := Hgo.out _ e.symm; omega
       ·have := Hgo.out _ e.symm; omega
       ·rcases hn7 with e | e
        ·rw [e] at hg; exact Hgo.out g hg
        ·rw [e] at hg; injection hg with hg; have h1 := HBb.out.lt; right; rw [← hg]; simp only [World.size_alloc]; omega
       ·exact (hE2.alloc _).grown hg7 (fun k hk => (hown2.lt k hk).1)
      case measure => simp [intOf]
    by_cases hj3 : j = 3
    ·subst hj3
     have hn0 := HBb.out.cell 3
     simp only [List.getElem?_toArray, List.getElem?_cons_succ, List.getElem?_cons_zero] at hn0
     have Hst := zi (kpJ_step nm 3 x_lm rfl)
     cases q : (nm.toList == [108, 97, 115, 116, 45, 109, 111, 100, 105, 102, 105, 101, 100])
     ·have hP : kpJ nm 4 = kpJ nm 3 := by
       rw [Hst.out, show (x_lm == nm) = false from by rw [beqB, decide_eq_false_iff_not]; intro e; rw [← e] at q; exact absurd q (by decide +kernel)]; simp
      rw [← hP] at hown2
      have HO2 := zi hown2
      clear hown2 hP
      go_wp2_with fail
      first | go_roundw | refine ⟨?rel, ?measure⟩
      case rel => exact ⟨4, m2, A2, c2, by omega, by go_num, rfl, HO2.out, hmc2, HBa.out, HBb.out, Hgo.out, hE2⟩
      case measure => simp [intOf]
     ·have hnm : nm = x_lm := eqS_iff.1 (by rw [show x_lm.toList = [108, 97, 115, 116, 45, 109, 111, 100, 105, 102, 105, 101, 100] by decide +kernel]; exact q)
      have hP0 : kpJ nm 3 = false := by rw [hnm]; decide +kernel
      have hP1 : kpJ nm 4 = true := by rw [hnm]; decide +kernel
      rw [hP0] at hown2
      simp only [Bool.false_eq_true, if_false, List.append_nil] at hown2
      have HP1 := zi hP1
      clear hnm hP0 hP1
      go_wp2_with (at_builtin; refine wpList_appB _ w.heap.size (hE2.alloc _).size rfl _ _ 33 rfl 51 _ 2 32 Tryz.underlying33 info_cln_F (by simp [Value.cells]) (by decide) _ _ _ rfl (hown2.alloc _) _ 1 1 (fldCells [(nm, vl)]) rfl rfl (cell_two_new _ _ _ _) (fldCells_one [(nm, vl)]) (by omega) (by decide) ?_; intro A7 c7 w7 hown7 hle7 hg7 hn7)
      first | go_roundw | refine ⟨?rel, ?measure⟩
      case rel =>
       refine ⟨4, m2 + 1, A7, c7, by omega, by go_num, rfl, by rw [HP1.out, if_pos rfl, fldCells_app]; exact hown7, hle7, (HBa.out.alloc _).grown hg7 (fun e => ?_), (HBb.out.alloc _).grown hg7 (fun e => ?_), fun g hg => ?_, ?_⟩
       ·have := Hgo.out _ e.symm; omega
       ·have := Hgo.out _ e.symm; omega
       ·rcases hn7 with e | e
        ·rw [e] at hg; exact Hgo.out g hg
        ·rw [e] at hg; injection hg with hg; have h1 := HBb.out.lt; right; rw [← hg]; simp only [World.size_alloc]; omega
       ·exact (hE2.alloc _).grown hg7 (fun k hk => (hown2.lt k hk).1)
      case measure => simp [intOf]
    by_cases hj4 : j = 4
    ·subst hj4
     have hn0 := HBb.out.cell 4
     simp only [List.getElem?_toArray, List.getElem?_cons_succ, List.getElem?_cons_zero] at hn0
     have Hst := zi (kpJ_step nm 4 x_sk rfl)
     cases q : (nm.toList == [115, 117, 114, 114, 111, 103, 97, 116, 101, 45, 107, 101, 121])
     ·have hP : kpJ nm 5 = kpJ nm 4 := by
       rw [Hst.out, show (x_sk == nm) = false from by rw [beqB, decide_eq_false_iff_not]; intro e; rw [← e] at q; exact absurd q (by decide +kernel)]; simp
      rw [← hP] at hown2
      have HO2 := zi hown2
      clear hown2 hP
      go_wp2_with fail
      first | go_roundw | refine ⟨?rel, ?measure⟩
      case rel => exact ⟨5, m2, A2, c2, by omega, by go_num, rfl, HO2.out, hmc2, HBa.out, HBb.out, Hgo.out, hE2⟩
      case measure => simp [intOf]
     ·have hnm : nm = x_sk := eqS_iff.1 (by rw [show x_sk.toList = [115, 117, 114, 114, 111, 103, 97, 116, 101, 45, 107, 101, 121] by decide +kernel]; exact q)
      have hP0 : kpJ nm 4 = false := by rw [hnm]; decide +kernel
      have hP1 : kpJ nm 5 = true := by rw [hnm]; decide +kernel
      rw [hP0] at hown2
      simp only [Bool.false_eq_true, if_false, List.append_nil] at hown2
      have HP1 := zi hP1
      clear hnm hP0 hP1
      go_wp2_with (at_builtin; refine wpList_appB _ w.heap.size (hE2.alloc _).size rfl _ _ 33 rfl 51 _ 2 32 Tryz.underlying33 info_cln_F (by simp [Value.cells]) (by decide) _ _ _ rfl (hown2.alloc _) _ 1 1 (fldCells [(nm, vl)]) rfl rfl (cell_two_new _ _ _ _) (fldCells_one [(nm, vl)]) (by omega) (by decide) ?_; intro A7 c7 w7 hown7 hle7 hg7 hn7)
      first | go_roundw | refine ⟨?rel, ?measure⟩
      case rel =>
       refine ⟨5, m2 + 1, A7, c7, by omega, by go_num, rfl, by rw [HP1.out, if_pos rfl, fldCells_app]; exact hown7, hle7, (HBa.out.alloc _).grown hg7 (fun e => ?_), (HBb.out.alloc _).grown hg7 (fun e => ?_), fun g hg => ?_, ?_⟩
       ·have := Hgo.out _ e.symm; omega
       ·have := Hgo.out _ e.symm; omega
       ·rcases hn7 with e | e
        ·rw [e] at hg; exact Hgo.out g hg
        ·rw [e] at hg; injection hg with hg; have h1 := HBb.out.lt; right; rw [← hg]; simp only [World.size_alloc]; omega
       ·exact (hE2.alloc _).grown hg7 (fun k hk => (hown2.lt k hk).1)
      case measure => simp [intOf]
    by_cases hj5 : j = 5
    ·subst hj5
     have hn0 := HBb.out.cell 5
     simp only [List.getElem?_toArray, List.getElem?_cons_succ, List.getElem?_cons_zero] at hn0
     have Hst := zi (kpJ_step nm 5 x_va rfl)
     cases q : (nm.toList == [118, 97, 114, 121])
     ·have hP : kpJ nm 6 = kpJ nm 5 := by
       rw [Hst.out, show (x_va == nm) = false from by rw [beqB, decide_eq_false_iff_not]; intro e; rw [← e] at q; exact absurd q (by decide +kernel)]; simp
      rw [← hP] at hown2
      have HO2 := zi hown2
      clear hown2 hP
      go_wp2_with fail
      first | go_roundw | refine ⟨?rel, ?measure⟩
      case rel => exact ⟨6, m2, A2, c2, by omega, by go_num, rfl, HO2.out, hmc2, HBa.out, HBb.out, Hgo.out, hE2⟩
      case measure => simp [intOf]
     ·have hnm : nm = x_va := eqS_iff.1 (by rw [show x_va.toList = [118, 97, 114, 121] by decide +kernel]; exact q)
      have hP0 : kpJ nm 5 = false := by rw [hnm]; decide +kernel
      have hP1 : kpJ nm 6 = true := by rw [hnm]; decide +kernel
      rw [hP0] at hown2
      simp only [Bool.false_eq_true, if_false, List.append_nil] at hown2
      have HP1 := zi hP1
      clear hnm hP0 hP1
      go_wp2_with (at_builtin; refine wpList_appB _ w.heap.size (hE2.alloc _).size rfl _ _ 33 rfl 51 _ 2 32 Tryz.underlying33 info_cln_F (by simp [Value.cells]) (by decide) _ _ _ rfl (hown2.alloc _) _ 1 1 (fldCells [(nm, vl)]) rfl rfl (cell_two_new _ _ _ _) (fldCells_one [(nm, vl)]) (by omega) (by decide) ?_; intro A7 c7 w7 hown7 hle7 hg7 hn7)
      first | go_roundw | refine ⟨?rel, ?measure⟩
      case rel =>
       refine ⟨6, m2 + 1, A7, c7, by omega, by go_num, rfl, by rw [HP1.out, if_pos rfl, fldCells_app]; exact hown7, hle7, (HBa.out.alloc _).grown hg7 (fun e => ?_), (HBb.out.alloc _).grown hg7 (fun e => ?_), fun g hg => ?_, ?_⟩
       ·have := Hgo.out _ e.symm; omega
       ·have := Hgo.out _ e.symm; omega
       ·rcases hn7 with e | e
        ·rw [e] at hg; exact Hgo.out g hg
        ·rw [e] at hg; injection hg with hg; have h1 := HBb.out.lt; right; rw [← hg]; simp only [World.size_alloc]; omega
       ·exact (hE2.alloc _).grown hg7 (fun k hk => (hown2.lt k hk).1)
      case measure => simp [intOf]
    ·omega
  ·obtain rfl : k = n := by omega
   go_wp2_with fail
   go_ret
   obtain ⟨s, hs, hsn, hr⟩ := RS.own hown
   refine ⟨s, by rw [← hs]; rfl, ?_, hbr⟩
   rw [List.take_of_length_le (by have := Hl.out; omega)] at hr
   exact hr
end Go.Proofs.YtmckbcbdnckngaaGreatDoor

namespace Go.Proofs.YtmckbcbdnckngaaGreatDoor
open Go.RowKit

theorem infoAn : (Tryz.prog.info? 174).map (·.size) = some 9 := by kernel_rfl
def anC (a : Ans) (fs bd : Sl) : Array Value := #[.int .i64 a.status, .int .i64 a.version, .int .i64 a.variant, .string a.addr, fs.v, bd.v, .int .i64 a.lo, .int .i64 a.hi, .bool a.ranged]
structure AnB (Q : Nat → Prop) (w : World) (b : Nat) (a : Ans) (fs bd : Sl) : Prop where
 blk : Blk w b 174 (anC a fs bd)
 fs : RS Q w 2 fs (fldCells a.fs)
 bd : RS Q w 1 bd (bytC a.body)
theorem AnB.ext {Q : Nat → Prop} {w w' : World} {b : Nat} {a : Ans} {fs bd : Sl} (h : AnB Q w b a fs bd) (hb : Ext w w') : AnB Q w' b a fs bd := ⟨h.blk.ext hb, h.fs.ext hb, h.bd.ext hb⟩
theorem AnB.put3 {Q : Nat → Prop} {W : World} {b : Nat} {a : Ans} {fs bd fs' bd' : Sl} {F : List Fd} {B : ByteArray} (h : AnB Q W b a fs bd) (hQ : Q b) (hf : RS Q W 2 fs' (fldCells F)) (hb : RS Q W 1 bd' (bytC B)) (st : Int) :
  AnB Q (((W.setCell ⟨b, 0, none⟩ (.int .i64 st)).setCell ⟨b, 4, none⟩ fs'.v).setCell ⟨b, 5, none⟩ bd'.v) b { a with status := st, fs := F, body := B } fs' bd' := by
 have hK := (((Keeps.refl (fun i => i = b) W).set_ (b := b) rfl 0 (.int .i64 st)).set_ (b := b) rfl 4 fs'.v).set_ (b := b) rfl 5 bd'.v
 exact ⟨((h.blk.set_ 0 _).set_ 4 _).set_ 5 _, hf.keep hK (fun i hi => .inl (by rw [show i = b from hi]; exact hQ)), hb.keep hK (fun i hi => .inl (by rw [show i = b from hi]; exact hQ))⟩
theorem AnB.putR {Q : Nat → Prop} {W : World} {b : Nat} {a : Ans} {fs bd : Sl} (h : AnB Q W b a fs bd) (hQ : Q b) (lo hi : Int) :
  AnB Q (((W.setCell ⟨b, 6, none⟩ (.int .i64 lo)).setCell ⟨b, 7, none⟩ (.int .i64 hi)).setCell ⟨b, 8, none⟩ (.bool true)) b { a with lo := lo, hi := hi, ranged := true } fs bd := by
 have hK := (((Keeps.refl (fun i => i = b) W).set_ (b := b) rfl 6 (.int .i64 lo)).set_ (b := b) rfl 7 (.int .i64 hi)).set_ (b := b) rfl 8 (.bool true)
 exact ⟨((h.blk.set_ 6 _).set_ 7 _).set_ 8 _, h.fs.keep hK (fun i hi => .inl (by rw [show i = b from hi]; exact hQ)), h.bd.keep hK (fun i hi => .inl (by rw [show i = b from hi]; exact hQ))⟩
theorem dec_done {w W w9 : World} {Q : Nat → Prop} {g : Nat} {F : List Fd} {B : ByteArray} {fs bd : Sl} (hE : Ext w W) (hg : w.heap.size ≤ g) (hQ : Q g) (hf : RS Q W 2 fs (fldCells F)) (hb : RS Q W 1 bd (bytC B)) (hx : ExtB g W w9) :
  RS (fun _ => False) w9 2 fs (fldCells F) ∧ RS (fun _ => False) w9 1 bd (bytC B) ∧ Ext w w9 := by
 have KX : Keeps (fun i => i = g) W w9 := Keeps.grown (Keeps.refl _ _) hx (fun b hb => .inl (by injection hb with hb; exact hb.symm))
 exact ⟨(hf.keep KX (fun i hi => .inl (by rw [show i = g from hi]; exact hQ))).sub (fun _ h => h.elim), (hb.keep KX (fun i hi => .inl (by rw [show i = g from hi]; exact hQ))).sub (fun _ h => h.elim), hE.growB hx hg⟩
theorem rgP_lt (v : ByteArray) (n : Int) : (rgP v n).1 < 1000 := by
 unfold rgP
 split
 ·exact of_decide_eq_true rfl
 ·split
  ·exact of_decide_eq_true rfl
  ·split
   ·exact of_decide_eq_true rfl
   ·split
    ·exact of_decide_eq_true rfl
    ·exact of_decide_eq_true rfl
theorem any_at {α : Type} {p : α → Bool} {l : List α} {k : Nat} (h : k < l.length) (hq : p l[k] = true) : l.any p = true := List.any_eq_true.2 ⟨_, List.getElem_mem h, hq⟩
theorem dec_step {α : Type} {p : α → Bool} {l : List α} {k : Nat} (h : k < l.length) (h0 : (l.take k).any p = false) (hq : p l[k] = false) : (l.take (k + 1)).any p = false := by
 rw [List.take_succ_eq_append_getElem h, List.any_append, h0, List.any_cons, hq]; rfl
theorem law_decide (s : SM) (o : Org) (t : Int) (r : Rq) (rA : Option Addr) (rn rc : Nat) (w : World) (h : s.At (fun _ => False) w o) (hbrd : Rd w 2 s.br.A s.br.n (o.br.flatMap spnC)) (hr : RdF w rA rn r.fs)
  (hrT : sumF r.fs + 2 * rn ≤ 1048576) (htz : r.target.size ≤ 1048576) (hbr : o.br.length ≤ 1000000) (hvs : o.vs.length ≤ 1000000) (hB : ∀ x ∈ o.vs, VerB x.2) (ht : cl55 t = t) (hg : Gl w) (hh : GlH w) (hp : GlP w) :
  Calls Tryz.prog 100 #[.agg s.cells.toArray, .int .i64 t, .agg #[.string r.method, .string r.target, .slice rA rn rc]] w fun e w' => ∃ fs bd : Sl, e = .returned (.agg (anC (decS55 o t r) fs bd)) ∧
   RS (fun _ => False) w' 2 fs (fldCells (decS55 o t r).fs) ∧ RS (fun _ => False) w' 1 bd (bytC (decS55 o t r).body) ∧ Ext w w' := by
 have hbz := bszF r.fs
 have hbz2 : Bsz 1048576 r.fs := fun f hf => ⟨by have := (hbz f hf).1; omega, by have := (hbz f hf).2; omega⟩
 obtain ⟨QQ, hQQ⟩ : ∃ Q : Nat → Prop, Q = (fun i => i = w.heap.size + 2) := ⟨_, rfl⟩
 have HSM := zi (h.more (Q' := QQ) (fun i hi => .inr (by rw [hQQ] at hi; have : i = w.heap.size + 2 := hi; omega)))
 have HRx := zi (fun w' (hx : Ext w w') => hr.ext hx)
 have HAh := zi (fun w' (hx : Ext w w') => field_All rA rn rc r.fs x_ho w' (hr.ext hx) (by omega) (by decide) (fun f hf => by have := (hbz2 f hf).1; omega))
 have HAr := zi (fun w' (hx : Ext w w') => field_All rA rn rc r.fs x_rg w' (hr.ext hx) (by omega) (by decide) (fun f hf => by have := (hbz2 f hf).1; omega))
 have Hlen := zi (fun nm v (hv : v ∈ allS r.fs nm) => show v.size ≤ 1048576 from by
  unfold allS at hv
  obtain ⟨f, hf, rfl⟩ := List.mem_map.1 hv
  exact (hbz2 f (List.mem_filter.1 hf).1).2)
 have HPr := zi (fun w' hv (hx : Ext w w') (hz : hv.size ≤ 1048576) => adr_Parse hv r.target w' hz htz (hg.ext hx))
 have HFm := zi (fun w' a hok h1 h2 (hx : Ext w w') => adr_Format a w' hok h1 h2 (hg.ext hx))
 have HFd := zi (fun w' text (hx : Ext w w') => show Calls Tryz.prog 38 #[.agg s.cells.toArray, .string text, .int .i64 t] w' fun e w'' => e = .returned (.int .i64 (findS o.vs text t : Nat)) ∧ Ext w' w'' from by have h9 := law_At _ s o text t w' (h.ext hx) hvs; rw [ht] at h9; exact h9)
 have HRp := zi (fun w' (m : MV) (h1 : m.At QQ w') (h2 : ∀ i, QQ i → i < w'.heap.size) (h3 : VerB m.ver) (hx : Ext w w') => law_repr QQ m r.method r.target rA rn rc r.fs w' h1 (hr.ext hx) h2 (by have := h3.fs.1; show m.ver.fs.length ≤ _; omega) (by have := h3.fs.2; show sumF m.ver.fs ≤ _; omega)
  (by have := h3.vars; rw [show m.ver.vars = m.vars.map (·.1) from rfl, List.length_map] at this; omega) (fun x h4 => by have h5 := h3.each x.1 (List.mem_map.2 ⟨x, h4, rfl⟩); exact ⟨h5.1, h5.2.1, by have := h5.2.2.1; omega⟩) (by omega) (by omega) (hg.ext hx))
 have HStt := zi (fun w' A n c (fs : List Fd) (h1 : RdF w' A n fs) (h2 : n ≤ 131073) (h3 : sumF fs ≤ 393216) (hx : Ext w w') => law_state A n c fs w' h1 (by omega) (by omega) (hh.ext hx))
 have HEr := zi (fun st => (evF_range r.method r.fs st).1)
 have HEv := zi (fun w' st (hx : Ext w w') => val_Evaluate r.method rA rn rc r.fs st w' (hr.ext hx) (by omega) hbz2 (by omega) hrT (hh.ext hx))
 have HUr := zi (fun w' st (hx : Ext w w') => val_UseRange r.method rA rn rc r.fs st w' (hr.ext hx) (by omega) hbz2 (by omega) hrT (hh.ext hx))
 have HPs := zi (fun w' v (n : Nat) (hv : v.size ≤ 1048576) (hn : n ≤ 1048576) (hx : Ext w w') => rg_Parse v n w' hv (by omega) (by omega) (hg.ext hx))
 have HCr := zi (fun w' lo hi (n : Nat) (hx : Ext w w') => rg_ContentRange lo hi n w' (by omega) (hp.ext hx))
 have Hnv := zi h.vn; have Hvs := zi hvs
 have Hvb := zi (show ∀ (k : Nat) (hk : k < s.mv.length) (hk2 : k < o.vs.length), o.vs[k] = (s.mv[k].1, s.mv[k].2.ver) ∧ VerB s.mv[k].2.ver from fun k hk hk2 => by
  have h1 : (s.mv.map (fun x => (x.1, x.2.ver)))[k]? = o.vs[k]? := congrArg (·[k]?) h.ver
  rw [List.getElem?_map, List.getElem?_eq_getElem hk, List.getElem?_eq_getElem hk2] at h1
  simp only [Option.map_some, Option.some.injEq] at h1
  refine ⟨h1.symm, ?_⟩
  have h2 := hB _ (List.getElem_mem hk2)
  rw [← h1] at h2; exact h2)
 have Hcb := zi (fun (m : MV) (h3 : VerB m.ver) => show (chS m.ver r.fs).1.length ≤ 131073 ∧ sumF (chS m.ver r.fs).1 ≤ 393216 ∧ (chS m.ver r.fs).2.1.size ≤ 1048576 from chs_bd m.ver r.fs 0 h3.body h3.fs.1 h3.fs.2 0 m.ver.vars (fun x hx => ⟨(h3.each x hx).2.2.1, (h3.each x hx).2.2.2⟩))
 have Hfl := zi (fun text => fnd_le o.vs text t)
 have Hbrd := zi hbrd
 have D503 := zi (@dec_503 o t r); have D405 := zi (@dec_405 o t r); have D400a := zi (@dec_400a o t r); have D400b := zi (fun hv => @dec_400b o t r hv); have D404 := zi (fun hv a => @dec_404 o t r hv a); have Dver := zi (fun hv a k => @dec_ver o t r hv a k)
 obtain ⟨DA, hDA⟩ : ∃ DA, decS55 o t r = DA := ⟨_, rfl⟩
 rw [hDA] at D503 D405 D400a D400b D404 Dver ⊢
 obtain ⟨me, ta, rfs⟩ := r
 unfold getQ headQ at D405 D400a D400b D404 Dver
 clear hDA h hbrd hr hbz hbz2 hg hh hp hB ht hvs
 obtain ⟨⟨iA, im, ic⟩, ⟨bA, bn, bc⟩, ⟨lA, ln, lc⟩, mv, ks⟩ := s
 simp only [SM.cells, Sl.v] at *
 have hbn : o.br.length = bn := by have h9 := Hbrd.out.1; rw [spnC_len] at h9; omega
 have Hbn := zi hbn
 rw [hbn] at hbr
 clear hbn
 have hsz1 : (w.alloc (.cells #[.slice iA im ic, .slice bA bn bc, .slice lA ln lc] 74)).heap.size = w.heap.size + 1 := by simp
 have hsz2 : ((w.alloc (.cells #[.slice iA im ic, .slice bA bn bc, .slice lA ln lc] 74)).alloc (.cells #[.string me, .string ta, .slice rA rn rc] 42)).heap.size = w.heap.size + 2 := by simp
 have HX := zi (((Blk.new w 74 #[.slice iA im ic, .slice bA bn bc, .slice lA ln lc]).alloc (.cells #[.string me, .string ta, .slice rA rn rc] 42)).alloc (.cells #[.int .i64 0, .int .i64 0, .int .i64 0, .string ⟨#[]⟩, .slice none 0 0, .slice none 0 0, .int .i64 0, .int .i64 0, .bool false] 174))
 have HY := zi ((Blk.new (w.alloc (.cells #[.slice iA im ic, .slice bA bn bc, .slice lA ln lc] 74)) 42 #[.string me, .string ta, .slice rA rn rc]).alloc (.cells #[.int .i64 0, .int .i64 0, .int .i64 0, .string ⟨#[]⟩, .slice none 0 0, .slice none 0 0, .int .i64 0, .int .i64 0, .bool false] 174))
 have HZ := zi (Blk.new ((w.alloc (.cells #[.slice iA im ic, .slice bA bn bc, .slice lA ln lc] 74)).alloc (.cells #[.string me, .string ta, .slice rA rn rc] 42)) 174 #[.int .i64 0, .int .i64 0, .int .i64 0, .string ⟨#[]⟩, .slice none 0 0, .slice none 0 0, .int .i64 0, .int .i64 0, .bool false])
 have HE3 := zi ((((Ext.refl w).alloc (.cells #[.slice iA im ic, .slice bA bn bc, .slice lA ln lc] 74)).alloc (.cells #[.string me, .string ta, .slice rA rn rc] 42)).alloc (.cells #[.int .i64 0, .int .i64 0, .int .i64 0, .string ⟨#[]⟩, .slice none 0 0, .slice none 0 0, .int .i64 0, .int .i64 0, .bool false] 174))
 rw [hsz1] at HY
 rw [hsz2] at HZ
 have HQ3 := zi (show ∀ i, QQ i → i < (((w.alloc (.cells #[.slice iA im ic, .slice bA bn bc, .slice lA ln lc] 74)).alloc (.cells #[.string me, .string ta, .slice rA rn rc] 42)).alloc (.cells #[.int .i64 0, .int .i64 0, .int .i64 0, .string ⟨#[]⟩, .slice none 0 0, .slice none 0 0, .int .i64 0, .int .i64 0, .bool false] 174)).heap.size from fun i hi => by rw [hQQ] at hi; have h9 : i = w.heap.size + 2 := hi; simp; omega)
 have HQ0 := zi (show QQ (w.heap.size + 2) by rw [hQQ])
 clear hQQ
 go_enter Tryz.func100, Tryz.ntmps100
 go_upto_region 1 with fail
 (try rw [hsz1]); (try rw [hsz2])
 generalize (((w.alloc (.cells #[.slice iA im ic, .slice bA bn bc, .slice lA ln lc] 74)).alloc (.cells #[.string me, .string ta, .slice rA rn rc] 42)).alloc (.cells #[.int .i64 0, .int .i64 0, .int .i64 0, .string ⟨#[]⟩, .slice none 0 0, .slice none 0 0, .int .i64 0, .int .i64 0, .bool false] 174)) = W3 at *
 clear hsz1 hsz2
 have HS := zi (fun w' (hx : Ext W3 w') => (⟨(HX.out.ext hx).cell 0, (HX.out.ext hx).cell 1, (HX.out.ext hx).cell 2, (HY.out.ext hx).cell 0, (HY.out.ext hx).cell 1, (HY.out.ext hx).cell 2⟩ : w'.cell? ⟨w.heap.size, 0, none⟩ = some (.slice iA im ic) ∧ w'.cell? ⟨w.heap.size, 1, none⟩ = some (.slice bA bn bc) ∧ w'.cell? ⟨w.heap.size, 2, none⟩ = some (.slice lA ln lc) ∧ w'.cell? ⟨w.heap.size + 1, 0, none⟩ = some (.string me) ∧ w'.cell? ⟨w.heap.size + 1, 1, none⟩ = some (.string ta) ∧ w'.cell? ⟨w.heap.size + 1, 2, none⟩ = some (.slice rA rn rc)))
 obtain ⟨s0, s1, s2, y0, y1, y2⟩ := HS.out _ (Ext.refl _)
 go_wp2_with fail
 clear s0 s1 s2 y0 y1 y2
 go_loopw [29] (fun i wr => ∃ k : Nat, k ≤ bn ∧ i = .int .i64 (k : Nat) ∧ (o.br.take k).any (inSp t) = false ∧ Ext W3 wr) (fun i _ => bn - (intOf i).toNat)
 case atStart => exact ⟨0, Nat.zero_le _, rfl, by rw [List.take_zero]; rfl, Ext.refl _⟩
 case round =>
  obtain ⟨k, hk, rfl, han, hE⟩ := hrel
  by_cases hlt : k < bn
  ·have hkl : k < o.br.length := by have := Hbn.out; omega
   obtain ⟨b, i, rfl, hc⟩ := Hbrd.out.2 (by rw [spnC_len]; omega)
   have c0 := hc (k * 2 + 0) _ ((flat_at spnC 2 (fun _ => rfl) o.br k 0 hkl (by omega)).trans rfl)
   have c1 := hc (k * 2 + 1) _ ((flat_at spnC 2 (fun _ => rfl) o.br k 1 hkl (by omega)).trans rfl)
   have Hit := zi (fun hq => @any_at _ (inSp t) o.br k hkl hq); have Hst := zi (fun hq => @dec_step _ (inSp t) o.br k hkl han hq)
   clear hc
   generalize o.br[k] = q at *
   obtain ⟨lo, hi⟩ := q
   simp only at c0 c1
   have c0 : wr.cell? ⟨b, i + k * 2, none⟩ = some (.int .i64 lo) := by have h1 := (HE3.out.trans hE).cell c0; rwa [Nat.add_zero] at h1
   have c1 : wr.cell? ⟨b, i + k * 2 + 1, none⟩ = some (.int .i64 hi) := by have h1 := (HE3.out.trans hE).cell c1; rwa [← Nat.add_assoc] at h1
   have hE8 := hE.alloc (.cells #[.int .i64 lo, .int .i64 hi] 65)
   have hkn : (k : Int) < bn := by omega
   by_cases q1 : lo ≤ t
   ·by_cases q2 : t < hi
    ·have HD := zi (D503.out (Hit.out (by unfold inSp; simp [q1, q2])))
     go_wp2_with (first | (refine wpList_storeB rfl 174 (.tmp 6) (.tmp 43) rfl rfl (w.heap.size + 2) _ rfl rfl 174 _ (HZ.out.ext (hE8)) infoAn rfl (by simp [Value.oneCell']) ?_; intro w99 hB9 hx9))
     have r0 : w99.cell? ⟨w.heap.size + 2, 0, none⟩ = some (.int .i64 503) := hB9.cell 0
     have r1 : w99.cell? ⟨w.heap.size + 2, 1, none⟩ = some (.int .i64 0) := hB9.cell 1
     have r2 : w99.cell? ⟨w.heap.size + 2, 2, none⟩ = some (.int .i64 0) := hB9.cell 2
     have r3 : w99.cell? ⟨w.heap.size + 2, 3, none⟩ = some (.string ⟨#[]⟩) := hB9.cell 3
     have r4 : w99.cell? ⟨w.heap.size + 2, 4, none⟩ = some (.slice none 0 0) := hB9.cell 4
     have r5 : w99.cell? ⟨w.heap.size + 2, 5, none⟩ = some (.slice none 0 0) := hB9.cell 5
     have r6 : w99.cell? ⟨w.heap.size + 2, 6, none⟩ = some (.int .i64 0) := hB9.cell 6
     have r7 : w99.cell? ⟨w.heap.size + 2, 7, none⟩ = some (.int .i64 0) := hB9.cell 7
     have r8 : w99.cell? ⟨w.heap.size + 2, 8, none⟩ = some (.bool false) := hB9.cell 8
     exact bodyPost_ret (v := .agg #[.int .i64 503, .int .i64 0, .int .i64 0, .string ⟨#[]⟩, .slice none 0 0, .slice none 0 0, .int .i64 0, .int .i64 0, .bool false]) (by simp [results, Tryz.results100, go_sem, r0, r1, r2, r3, r4, r5, r6, r7, r8]) rfl (by rw [HD.out]; exact ⟨sl0, sl0, rfl, dec_done (Q := QQ) (HE3.out.trans (hE8)) (by omega) HQ0.out ((show RS QQ _ 2 sl0 (fldCells []) from RS.nil _ _ _)) ((show RS QQ _ 1 sl0 (bytC ⟨#[]⟩) from RS.nil _ _ _)) hx9⟩)
    ·go_wp2_with fail
     first | go_roundw | refine ⟨?rel, ?measure⟩
     case rel => exact ⟨k + 1, by omega, by go_num, Hst.out (by unfold inSp; simp [q2]), hE8⟩
     case measure => simp [intOf]; omega
   ·go_wp2_with fail
    first | go_roundw | refine ⟨?rel, ?measure⟩
    case rel => exact ⟨k + 1, by omega, by go_num, Hst.out (by unfold inSp; simp [q1]), hE8⟩
    case measure => simp [intOf]; omega
  ·obtain rfl : k = bn := by omega
   rw [← Hbn.out, List.take_length] at han
   replace D405 := zi (D405.out han); replace D400a := zi (D400a.out han); replace D400b := zi (fun hv => D400b.out hv han); replace D404 := zi (fun hv a => D404.out hv a han); replace Dver := zi (fun hv a k => Dver.out hv a k han)
   clear D503 han hlt
   obtain ⟨s0, s1, s2, y0, y1, y2⟩ := HS.out _ hE
   go_upto_region 7 with fail
   go_cut [52] (fun x wx => x = .bool (!(me.toList == [71, 69, 84]) && !(me.toList == [72, 69, 65, 68])) ∧ wr = wx)
   case first =>
    cases q1 : (me.toList == [71, 69, 84])
    ·cases q2 : (me.toList == [72, 69, 65, 68])
     ·go_wp2_with fail
      go_meet
      exact ⟨by simp [q1, q2], rfl⟩
     ·go_wp2_with fail
      go_meet
      exact ⟨by simp [q1, q2], rfl⟩
    ·go_wp2_with fail
     go_meet
     exact ⟨by simp [q1], rfl⟩
   case rest =>
   obtain ⟨rfl, rfl⟩ := hcut
   by_cases hgh : (me.toList == [71, 69, 84]) = true ∨ (me.toList == [72, 69, 65, 68]) = true
   rotate_left
   ·have q1 : (me.toList == [71, 69, 84]) = false := by cases h : (me.toList == [71, 69, 84]) with | false => rfl | true => exact absurd (.inl h) hgh
    have q2 : (me.toList == [72, 69, 65, 68]) = false := by cases h : (me.toList == [72, 69, 65, 68]) with | false => rfl | true => exact absurd (.inr h) hgh
    rw [q1, q2]
    have HD := zi (D405.out q1 q2)
    clear s0 s1 s2 y0 y1 y2
    go_wp2_with (first | (refine wpList_storeB rfl 174 (.tmp 6) (.tmp 53) rfl rfl (w.heap.size + 2) _ rfl rfl 174 _ (HZ.out.ext (hE)) infoAn rfl (by simp [Value.oneCell']) ?_; intro w99 hB9 hx9))
    have r0 : w99.cell? ⟨w.heap.size + 2, 0, none⟩ = some (.int .i64 405) := hB9.cell 0
    have r1 : w99.cell? ⟨w.heap.size + 2, 1, none⟩ = some (.int .i64 0) := hB9.cell 1
    have r2 : w99.cell? ⟨w.heap.size + 2, 2, none⟩ = some (.int .i64 0) := hB9.cell 2
    have r3 : w99.cell? ⟨w.heap.size + 2, 3, none⟩ = some (.string ⟨#[]⟩) := hB9.cell 3
    have r4 : w99.cell? ⟨w.heap.size + 2, 4, none⟩ = some (.slice none 0 0) := hB9.cell 4
    have r5 : w99.cell? ⟨w.heap.size + 2, 5, none⟩ = some (.slice none 0 0) := hB9.cell 5
    have r6 : w99.cell? ⟨w.heap.size + 2, 6, none⟩ = some (.int .i64 0) := hB9.cell 6
    have r7 : w99.cell? ⟨w.heap.size + 2, 7, none⟩ = some (.int .i64 0) := hB9.cell 7
    have r8 : w99.cell? ⟨w.heap.size + 2, 8, none⟩ = some (.bool false) := hB9.cell 8
    exact bodyPost_ret (v := .agg #[.int .i64 405, .int .i64 0, .int .i64 0, .string ⟨#[]⟩, .slice none 0 0, .slice none 0 0, .int .i64 0, .int .i64 0, .bool false]) (by simp [results, Tryz.results100, go_sem, r0, r1, r2, r3, r4, r5, r6, r7, r8]) rfl (by rw [HD.out]; exact ⟨sl0, sl0, rfl, dec_done (Q := QQ) (HE3.out.trans (hE)) (by omega) HQ0.out ((show RS QQ _ 2 sl0 (fldCells []) from RS.nil _ _ _)) ((show RS QQ _ 1 sl0 (bytC ⟨#[]⟩) from RS.nil _ _ _)) hx9⟩)

   have hg0 : (!(me.toList == [71, 69, 84]) && !(me.toList == [72, 69, 65, 68])) = false := by rcases hgh with h | h <;> simp [h]
   rw [hg0]
   replace D400a := zi (D400a.out hgh); replace D400b := zi (fun hv => D400b.out hv hgh); replace D404 := zi (fun hv a => D404.out hv a hgh); replace Dver := zi (fun hv a k => Dver.out hv a k hgh)
   clear hg0 hgh D405
   go_wp2_with fail
   refine (HAh.out _ (HE3.out.trans hE)).mono ?_; rintro e w2 ⟨lA, ln, lc, rfl, hls, hlc, hb2⟩
   clear s0 s1 s2 y0 y1 y2
   have HE2 := zi (hE.trans hb2); have HW2 := zi (HE3.out.trans HE2.out)
   have hll := hls.lenS
   by_cases hl1 : ln = 1
   rotate_left
   ·have hq1 : ((ln : Int) == 1) = false := by rw [beq_eq_false_iff_ne]; omega
    have HD := zi (D400a.out (by (try simp only at hll ⊢); omega))
    go_wp2_with (first | (refine wpList_storeB rfl 174 (.tmp 6) (.tmp 60) rfl rfl (w.heap.size + 2) _ rfl rfl 174 _ (HZ.out.ext (HE2.out)) infoAn rfl (by simp [Value.oneCell']) ?_; intro w99 hB9 hx9))
    have r0 : w99.cell? ⟨w.heap.size + 2, 0, none⟩ = some (.int .i64 400) := hB9.cell 0
    have r1 : w99.cell? ⟨w.heap.size + 2, 1, none⟩ = some (.int .i64 0) := hB9.cell 1
    have r2 : w99.cell? ⟨w.heap.size + 2, 2, none⟩ = some (.int .i64 0) := hB9.cell 2
    have r3 : w99.cell? ⟨w.heap.size + 2, 3, none⟩ = some (.string ⟨#[]⟩) := hB9.cell 3
    have r4 : w99.cell? ⟨w.heap.size + 2, 4, none⟩ = some (.slice none 0 0) := hB9.cell 4
    have r5 : w99.cell? ⟨w.heap.size + 2, 5, none⟩ = some (.slice none 0 0) := hB9.cell 5
    have r6 : w99.cell? ⟨w.heap.size + 2, 6, none⟩ = some (.int .i64 0) := hB9.cell 6
    have r7 : w99.cell? ⟨w.heap.size + 2, 7, none⟩ = some (.int .i64 0) := hB9.cell 7
    have r8 : w99.cell? ⟨w.heap.size + 2, 8, none⟩ = some (.bool false) := hB9.cell 8
    exact bodyPost_ret (v := .agg #[.int .i64 400, .int .i64 0, .int .i64 0, .string ⟨#[]⟩, .slice none 0 0, .slice none 0 0, .int .i64 0, .int .i64 0, .bool false]) (by simp [results, Tryz.results100, go_sem, r0, r1, r2, r3, r4, r5, r6, r7, r8]) rfl (by rw [HD.out]; exact ⟨sl0, sl0, rfl, dec_done (Q := QQ) (HE3.out.trans (HE2.out)) (by omega) HQ0.out ((show RS QQ _ 2 sl0 (fldCells []) from RS.nil _ _ _)) ((show RS QQ _ 1 sl0 (bytC ⟨#[]⟩) from RS.nil _ _ _)) hx9⟩)

   subst hl1
   obtain ⟨hv, hhv⟩ : ∃ hv, allS rfs x_ho = [hv] := by
    match hm : allS rfs x_ho, hll with
    | [v], _ => exact ⟨v, rfl⟩
   have Hv := zi hhv
   have hvz := Hlen.out x_ho hv (by rw [Hv.out]; simp)
   rw [Hv.out] at hls
   obtain ⟨lb, lo, hlA, d0⟩ := hls.atS (k := 0) (by simp)
   subst hlA
   rw [Nat.add_zero] at d0
   replace d0 : w2.cell? ⟨lb, lo, none⟩ = some (.string hv) := d0
   have Hd := zi (fun w' (hx : Ext w2 w') => hx.cell d0)
   replace D400b := zi (D400b.out hv Hv.out); replace D404 := zi (fun a => D404.out hv a Hv.out); replace Dver := zi (fun a k => Dver.out hv a k Hv.out)
   replace HPr := zi (fun w' (hx : Ext w w') => HPr.out w' hv hx hvz)
   have Hsz := zi (fun a h => @ad_sizes (bsL hv) (bsL ta) a h); have Hag := zi (fun a (h : adP (bsL hv) (bsL ta) = some a) => ad_again h)
   (try simp only at D400b D404 Dver HPr)
   generalize hP : adP (bsL hv) (bsL ta) = P at *
   clear hP
   obtain ⟨q1, q2, q3, q4, hq⟩ : ∃ q1 q2 q3 q4, adrA P = #[.string q1, .string q2, .string q3, .bool q4] := by
    cases P with
    | none => exact ⟨_, _, _, _, rfl⟩
    | some a => exact ⟨_, _, _, _, rfl⟩
   rw [hq] at HPr
   have Hq := zi hq
   clear hq d0 hls hll hhv hvz hE hb2 D400a
   go_wp2_with fail
   have hL := (Ext.refl w2).drew
   go_cut [10, 11] (fun x10 x11 wx => ∃ n3 bx, x10 = .pointer (some ⟨bx, 0, none⟩) ∧ x11 = errV n3 ∧ n3 < 1000 ∧ (n3 = 0 ↔ P.isSome = true) ∧ Ext W3 wx ∧ Blk wx bx 123 #[.string q1, .string q2, .string q3, .bool q4])
   case first =>
    rename_i J9 K9 hJ9 hK9
    refine wp_region_U (S := (fun w' => w'.cell? ⟨lb, lo, none⟩ = some (.string hv) ∧ w'.cell? ⟨w.heap.size + 1, 1, none⟩ = some (.string ta))) 10 (by kernel_rfl) ?_ (fun hHeld => ?_)
    ·(try dsimp only); exact ⟨Hd.out _ hL, (HS.out _ (HE2.out.trans hL)).2.2.2.2.1⟩
    refine wpAnyU_takeW (i := 0) (oi := ⟨some 62, _, _, _, _, _⟩) (v := ?_) (by kernel_rfl) rfl (by kernel_rfl) (by kernel_rfl) (by kernel_rfl) (fun _ _ _ h => h) (Or.inl ⟨by rfl, ?_⟩) (by assumption) ?_
    rotate_left
    ·(intro w hSw; (try dsimp only at hSw); go_simp; (try with_reducible rfl))
    try simp only [zP]
    refine wpAnyU_takeW (i := 1) (oi := ⟨some 63, _, _, _, _, _⟩) (v := ?_) (by kernel_rfl) rfl (by kernel_rfl) (by kernel_rfl) (by kernel_rfl) (fun _ _ _ h => h) (Or.inl ⟨by rfl, ?_⟩) (by assumption) ?_
    rotate_left
    ·(intro w hSw; (try dsimp only at hSw); go_simp; (try with_reducible rfl))
    try simp only [zP]
    refine wpAnyU_take (i := 2) (oi := ⟨some 64, _, _, _, _, _⟩) (v := ?_) [5, 6, 7, 8, 10, 11] (by kernel_rfl) (by kernel_rfl) (by kernel_rfl) (by kernel_rfl) rfl (by kernel_rfl) (by kernel_rfl) (by kernel_rfl) (fun _ _ _ h => h) (Or.inl ⟨by rfl, ?_⟩) (by assumption) ?_
    rotate_left
    ·(intro w hSw; (try dsimp only at hSw); go_simp; (try with_reducible rfl))
    try simp only [zP]
    refine wpAnyU_takeW (i := 3) (oi := ⟨some 65, _, _, _, _, _⟩) (v := ?_) (by kernel_rfl) rfl (by kernel_rfl) (by kernel_rfl) (by kernel_rfl) (fun _ _ _ h => h) (Or.inl ⟨by rfl, ?_⟩) (by assumption) ?_
    rotate_left
    ·(intro w hSw; (try dsimp only at hSw); go_simp; (try with_reducible rfl))
    try simp only [zP]
    refine wpAnyU_take (i := 4) (oi := ⟨some 66, _, _, _, _, _⟩) (v := ?_) [5, 6, 7, 8, 10, 11] (by kernel_rfl) (by kernel_rfl) (by kernel_rfl) (by kernel_rfl) rfl (by kernel_rfl) (by kernel_rfl) (by kernel_rfl) (fun _ _ _ h => h) (Or.inl ⟨by rfl, ?_⟩) (by assumption) ?_
    rotate_left
    ·(intro w hSw; (try dsimp only at hSw); go_simp; (try with_reducible rfl))
    try simp only [zP]
    refine wpAnyU_ready (rs := [5, 9]) (by kernel_rfl) (by simp) ?_
    refine AllReadyU.cons (o := ⟨some 67, _, _, _, _, _⟩) rfl (fun K hK => ?_) (AllReadyU.cons (o := ⟨some 10, _, _, _, _, _⟩) rfl (fun K hK => ?_) AllReadyU.nil)
    ·go_simp
     refine (HPr.out _ (HW2.out.trans hL)).mono ?_; rintro e w3 ⟨⟨n3, rfl, hn3, hi3⟩, hb3⟩; replace hL := hL.trans hb3
     try go_wp2_with fail
     refine hK.out _ _ ?_ (fun hHeld => ?_)
     ·(try dsimp only); exact ⟨Hd.out _ hL, (HS.out _ (HE2.out.trans hL)).2.2.2.2.1⟩
     clear hK K
     try simp only [zP]
     refine wpAnyU_takeW (i := 6) (oi := ⟨some 61, _, _, _, _, _⟩) (v := ?_) (by kernel_rfl) rfl (by kernel_rfl) (by kernel_rfl) (by kernel_rfl) (fun _ _ _ h => h) (Or.inl ⟨by rfl, ?_⟩) (by assumption) ?_
     rotate_left
     ·(intro w hSw; (try dsimp only at hSw); go_simp; (try with_reducible rfl))
     try simp only [zP]
     refine wpAnyU_takeW (i := 7) (oi := ⟨some 68, _, _, _, _, _⟩) (v := ?_) (by kernel_rfl) rfl (by kernel_rfl) (by kernel_rfl) (by kernel_rfl) (fun _ _ _ h => h) (Or.inl ⟨by rfl, ?_⟩) (by assumption) ?_
     rotate_left
     ·(intro w hSw; (try dsimp only at hSw); go_simp; (try with_reducible rfl))
     try simp only [zP]
     refine wpAnyU_takeW (i := 8) (oi := ⟨some 69, _, _, _, _, _⟩) (v := ?_) (by kernel_rfl) rfl (by kernel_rfl) (by kernel_rfl) (by kernel_rfl) (fun _ _ _ h => h) (Or.inl ⟨by rfl, ?_⟩) (by assumption) ?_
     rotate_left
     ·(intro w hSw; (try dsimp only at hSw); go_simp; (try with_reducible rfl))
     try simp only [zP]
     refine wpAnyU_ready (rs := [9]) (by kernel_rfl) (by simp) ?_
     refine AllReadyU.cons (o := ⟨some 10, _, _, _, _, _⟩) rfl (fun K hK => ?_) AllReadyU.nil
     go_simp
     try go_wp2_with fail
     refine hK.out _ _ ?_ (fun hHeld => ?_)
     ·(try dsimp only); exact ⟨Hd.out _ (hL.alloc _), (HS.out _ (HE2.out.trans (hL.alloc _))).2.2.2.2.1⟩
     clear hK K
     try simp only [zP]
     refine wpAnyU_ready (rs := [10]) (by kernel_rfl) (by simp) ?_
     refine AllReadyU.stop (o := ⟨none, _, _, _, _, _⟩) rfl (by kernel_rfl) (fun K hK => ?_) AllReadyU.nil
     go_simp
     try go_wp2_with fail
     refine hK.out _ _ ?_ (fun hHeld => ?_)
     ·(try dsimp only); (try trivial)
     clear hK K
     try simp only [zP]
     refine zH (v := ?_) 11 (some 11) rfl ?_ ?_; rotate_left
     ·(intro w hSw; (try dsimp only at hSw); go_simp; (try with_reducible rfl))
     try simp only [zP]
     refine wpAnyH_done (by kernel_rfl) ?_ _
     have HX4 := zi (Blk.new w3 123 #[.string q1, .string q2, .string q3, .bool q4])
     replace hL := hL.alloc (.cells #[.string q1, .string q2, .string q3, .bool q4] 123)
     generalize w3.alloc (.cells #[.string q1, .string q2, .string q3, .bool q4] 123) = wx at *
     generalize w3.heap.size = bx at *
     have HE4 := zi (HE2.out.trans hL)
     have HX4q := HX4.out
     refine hK9 _ _ (Met.intro (hJ9 _ _ ?_))
     (repeat apply Exists.intro)
     refine ⟨?_, rfl⟩
     exact ⟨n3, bx, rfl, rfl, hn3, hi3, HE4.out, HX4.out⟩
    ·go_simp
     try go_wp2_with fail
     refine hK.out _ _ ?_ (fun hHeld => ?_)
     ·(try dsimp only); exact ⟨Hd.out _ (hL.alloc _), (HS.out _ (HE2.out.trans (hL.alloc _))).2.2.2.2.1⟩
     clear hK K
     try simp only [zP]
     refine wpAnyU_ready (rs := [5]) (by kernel_rfl) (by simp) ?_
     refine AllReadyU.cons (o := ⟨some 67, _, _, _, _, _⟩) rfl (fun K hK => ?_) AllReadyU.nil
     go_simp
     have HX5 := zi (Blk.new w2.drew 123 #[.string ⟨#[]⟩, .string ⟨#[]⟩, .string ⟨#[]⟩, .bool false]); have hL5 := hL.alloc (.cells #[.string ⟨#[]⟩, .string ⟨#[]⟩, .string ⟨#[]⟩, .bool false] 123); refine (HPr.out _ (HW2.out.trans hL5)).mono ?_; rintro e w3 ⟨⟨n3, rfl, hn3, hi3⟩, hb3⟩; have HX3 := zi (HX5.out.ext hb3); replace hL := hL5.trans hb3
     try go_wp2_with fail
     refine hK.out _ _ ?_ (fun hHeld => ?_)
     ·(try dsimp only); exact ⟨Hd.out _ hL, (HS.out _ (HE2.out.trans hL)).2.2.2.2.1⟩
     clear hK K
     try simp only [zP]
     refine wpAnyU_takeW (i := 6) (oi := ⟨some 61, _, _, _, _, _⟩) (v := ?_) (by kernel_rfl) rfl (by kernel_rfl) (by kernel_rfl) (by kernel_rfl) (fun _ _ _ h => h) (Or.inl ⟨by rfl, ?_⟩) (by assumption) ?_
     rotate_left
     ·(intro w hSw; (try dsimp only at hSw); go_simp; (try with_reducible rfl))
     try simp only [zP]
     refine wpAnyU_takeW (i := 7) (oi := ⟨some 68, _, _, _, _, _⟩) (v := ?_) (by kernel_rfl) rfl (by kernel_rfl) (by kernel_rfl) (by kernel_rfl) (fun _ _ _ h => h) (Or.inl ⟨by rfl, ?_⟩) (by assumption) ?_
     rotate_left
     ·(intro w hSw; (try dsimp only at hSw); go_simp; (try with_reducible rfl))
     try simp only [zP]
     refine wpAnyU_takeW (i := 8) (oi := ⟨some 69, _, _, _, _, _⟩) (v := ?_) (by kernel_rfl) rfl (by kernel_rfl) (by kernel_rfl) (by kernel_rfl) (fun _ _ _ h => h) (Or.inl ⟨by rfl, ?_⟩) (by assumption) ?_
     rotate_left
     ·(intro w hSw; (try dsimp only at hSw); go_simp; (try with_reducible rfl))
     try simp only [zP]
     refine wpAnyU_ready (rs := [10]) (by kernel_rfl) (by simp) ?_
     refine AllReadyU.stop (o := ⟨none, _, _, _, _, _⟩) rfl (by kernel_rfl) (fun K hK => ?_) AllReadyU.nil
     have c0 : w3.cell? ⟨w2.heap.size, 0, none⟩ = some (.string ⟨#[]⟩) := HX3.out.cell 0; have f0 : w3.frozen? ⟨w2.heap.size, 0, none⟩ = false := HX3.out.frozen 0; have c1 : w3.cell? ⟨w2.heap.size, 1, none⟩ = some (.string ⟨#[]⟩) := HX3.out.cell 1; have f1 : w3.frozen? ⟨w2.heap.size, 1, none⟩ = false := HX3.out.frozen 1; have c2 : w3.cell? ⟨w2.heap.size, 2, none⟩ = some (.string ⟨#[]⟩) := HX3.out.cell 2; have f2 : w3.frozen? ⟨w2.heap.size, 2, none⟩ = false := HX3.out.frozen 2; have c3 : w3.cell? ⟨w2.heap.size, 3, none⟩ = some (.bool false) := HX3.out.cell 3; have f3 : w3.frozen? ⟨w2.heap.size, 3, none⟩ = false := HX3.out.frozen 3
     go_simp
     try go_wp2_with fail
     refine hK.out _ _ ?_ (fun hHeld => ?_)
     ·(try dsimp only); (try trivial)
     clear hK K
     try simp only [zP]
     refine zH (v := ?_) 11 (some 11) rfl ?_ ?_; rotate_left
     ·(intro w hSw; (try dsimp only at hSw); go_simp; (try with_reducible rfl))
     try simp only [zP]
     refine wpAnyH_done (by kernel_rfl) ?_ _
     have HX4 := zi (show Blk ((((w3.setCell ⟨w2.heap.size, 0, none⟩ (.string q1)).setCell ⟨w2.heap.size, 1, none⟩ (.string q2)).setCell ⟨w2.heap.size, 2, none⟩ (.string q3)).setCell ⟨w2.heap.size, 3, none⟩ (.bool q4)) w2.heap.size 123 #[.string q1, .string q2, .string q3, .bool q4] from (((HX3.out.set_ 0 (.string q1)).set_ 1 (.string q2)).set_ 2 (.string q3)).set_ 3 (.bool q4))
     replace hL := (((hL.setCell (p := ⟨w2.heap.size, 0, none⟩) (Nat.le_refl _) (.string q1)).setCell (p := ⟨w2.heap.size, 1, none⟩) (Nat.le_refl _) (.string q2)).setCell (p := ⟨w2.heap.size, 2, none⟩) (Nat.le_refl _) (.string q3)).setCell (p := ⟨w2.heap.size, 3, none⟩) (Nat.le_refl _) (.bool q4)
     clear c0 c1 c2 c3 f0 f1 f2 f3
     generalize (((w3.setCell ⟨w2.heap.size, 0, none⟩ (.string q1)).setCell ⟨w2.heap.size, 1, none⟩ (.string q2)).setCell ⟨w2.heap.size, 2, none⟩ (.string q3)).setCell ⟨w2.heap.size, 3, none⟩ (.bool q4) = wx at *
     generalize hbx : w2.heap.size = bx at *
     have HE4 := zi (HE2.out.trans hL)
     have HX4q := HX4.out
     refine hK9 _ _ (Met.intro (hJ9 _ _ ?_))
     (repeat apply Exists.intro)
     refine ⟨?_, rfl⟩
     exact ⟨n3, bx, rfl, rfl, hn3, hi3, HE4.out, HX4.out⟩
   case rest =>
   obtain ⟨n3, bx, rfl, rfl, hn3, hi3, hE4, hX4⟩ := hcut
   generalize wc = wx at *
   have HX4 := zi hX4
   have HE4 := zi hE4
   clear hX4 hE4
   rcases errV_eq0 n3 with ⟨h0, h1⟩ | ⟨h0, h1⟩
   rotate_left
   ·rw [h1]
    have hPn : P = none := by cases P with | none => rfl | some a => exact absurd (hi3.2 rfl) h0
    have HD := zi (D400b.out hPn)
    go_wp2_with (first | (refine wpList_storeB rfl 174 (.tmp 6) (.tmp 72) rfl rfl (w.heap.size + 2) _ rfl rfl 174 _ (HZ.out.ext (HE4.out)) infoAn rfl (by simp [Value.oneCell']) ?_; intro w99 hB9 hx9))
    have r0 : w99.cell? ⟨w.heap.size + 2, 0, none⟩ = some (.int .i64 400) := hB9.cell 0
    have r1 : w99.cell? ⟨w.heap.size + 2, 1, none⟩ = some (.int .i64 0) := hB9.cell 1
    have r2 : w99.cell? ⟨w.heap.size + 2, 2, none⟩ = some (.int .i64 0) := hB9.cell 2
    have r3 : w99.cell? ⟨w.heap.size + 2, 3, none⟩ = some (.string ⟨#[]⟩) := hB9.cell 3
    have r4 : w99.cell? ⟨w.heap.size + 2, 4, none⟩ = some (.slice none 0 0) := hB9.cell 4
    have r5 : w99.cell? ⟨w.heap.size + 2, 5, none⟩ = some (.slice none 0 0) := hB9.cell 5
    have r6 : w99.cell? ⟨w.heap.size + 2, 6, none⟩ = some (.int .i64 0) := hB9.cell 6
    have r7 : w99.cell? ⟨w.heap.size + 2, 7, none⟩ = some (.int .i64 0) := hB9.cell 7
    have r8 : w99.cell? ⟨w.heap.size + 2, 8, none⟩ = some (.bool false) := hB9.cell 8
    exact bodyPost_ret (v := .agg #[.int .i64 400, .int .i64 0, .int .i64 0, .string ⟨#[]⟩, .slice none 0 0, .slice none 0 0, .int .i64 0, .int .i64 0, .bool false]) (by simp [results, Tryz.results100, go_sem, r0, r1, r2, r3, r4, r5, r6, r7, r8]) rfl (by rw [HD.out]; exact ⟨sl0, sl0, rfl, dec_done (Q := QQ) (HE3.out.trans (HE4.out)) (by omega) HQ0.out ((show RS QQ _ 2 sl0 (fldCells []) from RS.nil _ _ _)) ((show RS QQ _ 1 sl0 (bytC ⟨#[]⟩) from RS.nil _ _ _)) hx9⟩)
   rw [h1]
   obtain ⟨a, ha⟩ := Option.isSome_iff_exists.1 (hi3.1 h0)
   obtain ⟨e1, e2, e3, e4⟩ := adr_q (ha ▸ Hq.out)
   have hs4 := Hsz.out a ha
   have hok := Hag.out a ha
   subst e1; subst e2; subst e3; subst e4
   have hXq := HX4.out
   have u0 : wx.cell? ⟨bx, 0, none⟩ = some (.string ⟨a.host.toArray⟩) := hXq.cell 0
   have u1 : wx.cell? ⟨bx, 1, none⟩ = some (.string ⟨a.path.toArray⟩) := hXq.cell 1
   have u2 : wx.cell? ⟨bx, 2, none⟩ = some (.string ⟨a.query.toArray⟩) := hXq.cell 2
   have u3 : wx.cell? ⟨bx, 3, none⟩ = some (.bool a.has) := hXq.cell 3
   clear hXq
   replace HFm := zi (HFm.out wx a hok (by omega) (by omega) (HE3.out.trans HE4.out))
   replace D404 := zi (D404.out a ha); replace Dver := zi (fun k => Dver.out a k ha)
   generalize (⟨(adText a).toArray⟩ : ByteArray) = T at *
   clear hok hs4 h0 h1 hi3 hn3 Hq Hsz Hag D400b HPr
   go_upto_region 15 with fail
   go_wp2_with fail
   refine HFm.out.mono ?_; rintro e w5 ⟨rfl, hb5⟩
   clear u0 u1 u2 u3
   have HE5 := zi (HE4.out.trans hb5)
   obtain ⟨s0, s1, s2, y0, y1, y2⟩ := HS.out _ HE5.out
   go_wp2_with fail
   refine (HFd.out _ T (HE3.out.trans HE5.out)).mono ?_; rintro e w7 ⟨rfl, hb7⟩
   clear s0 s1 s2 y0 y1 y2
   have HE7 := zi (HE5.out.trans hb7)
   have hfl := Hfl.out T
   generalize findS o.vs T t = fn at *
   cases fn with
   | zero =>
    have HD := zi (D404.out (by trivial))
    have RF := zi (show RS QQ (w7.alloc (.cells #[.string ⟨#[99, 97, 99, 104, 101, 45, 99, 111, 110, 116, 114, 111, 108]⟩, .string ⟨#[109, 97, 120, 45, 97, 103, 101, 61, 49]⟩] 51)) 2 ⟨some ⟨w7.heap.size, 0, none⟩, 1, 1⟩ (fldCells brief) from ⟨Rd.lit w7 #[.string ⟨#[99, 97, 99, 104, 101, 45, 99, 111, 110, 116, 114, 111, 108]⟩, .string ⟨#[109, 97, 120, 45, 97, 103, 101, 61, 49]⟩] 51 rfl 2 1 rfl, fun _ a ha hb => by simp only [Option.some.injEq] at ha; subst ha; have h9 := HQ3.out _ hb; have h8 := HE7.out.size; simp only at h9; omega, Nat.le_refl _⟩)
    go_wp2_with (first | (refine wpList_storeB rfl 174 (.tmp 6) (.tmp 87) rfl rfl (w.heap.size + 2) _ rfl rfl 174 _ (HZ.out.ext (HE7.out.alloc _)) infoAn rfl (by simp [Value.oneCell']) ?_; intro w99 hB9 hx9))
    have r0 : w99.cell? ⟨w.heap.size + 2, 0, none⟩ = some (.int .i64 404) := hB9.cell 0
    have r1 : w99.cell? ⟨w.heap.size + 2, 1, none⟩ = some (.int .i64 0) := hB9.cell 1
    have r2 : w99.cell? ⟨w.heap.size + 2, 2, none⟩ = some (.int .i64 0) := hB9.cell 2
    have r3 : w99.cell? ⟨w.heap.size + 2, 3, none⟩ = some (.string T) := hB9.cell 3
    have r4 : w99.cell? ⟨w.heap.size + 2, 4, none⟩ = some (.slice (some ⟨w7.heap.size, 0, none⟩) 1 1) := hB9.cell 4
    have r5 : w99.cell? ⟨w.heap.size + 2, 5, none⟩ = some (.slice none 0 0) := hB9.cell 5
    have r6 : w99.cell? ⟨w.heap.size + 2, 6, none⟩ = some (.int .i64 0) := hB9.cell 6
    have r7 : w99.cell? ⟨w.heap.size + 2, 7, none⟩ = some (.int .i64 0) := hB9.cell 7
    have r8 : w99.cell? ⟨w.heap.size + 2, 8, none⟩ = some (.bool false) := hB9.cell 8
    exact bodyPost_ret (v := .agg #[.int .i64 404, .int .i64 0, .int .i64 0, .string T, .slice (some ⟨w7.heap.size, 0, none⟩) 1 1, .slice none 0 0, .int .i64 0, .int .i64 0, .bool false]) (by simp [results, Tryz.results100, go_sem, r0, r1, r2, r3, r4, r5, r6, r7, r8]) rfl (by rw [HD.out]; exact ⟨⟨some ⟨w7.heap.size, 0, none⟩, 1, 1⟩, sl0, rfl, dec_done (Q := QQ) (HE3.out.trans (HE7.out.alloc _)) (by omega) HQ0.out (RF.out) ((show RS QQ _ 1 sl0 (bytC ⟨#[]⟩) from RS.nil _ _ _)) hx9⟩)
   | succ k =>
    have hkv : k < o.vs.length := by omega
    have hkm : k < mv.length := by have h1 : mv.length = o.vs.length := Hnv.out.2; omega
    have hvn : im = o.vs.length := Hnv.out.1
    obtain ⟨hvk, hvB⟩ := Hvb.out k hkm hkv
    (try simp only at hvk hvB)
    have DD := Dver.out k (by trivial) hkv
    rw [hvk] at DD
    obtain ⟨g, i0, hA, hc⟩ := (HSM.out.ext (HE3.out.trans HE7.out)).item hkm
    have hmem := HSM.out.mem _ (List.getElem_mem hkm)
    (try simp only at hA hc hmem DD)
    subst hA
    generalize mv[k] = x at *
    obtain ⟨at_, m⟩ := x
    (try simp only at hvB hmem DD)
    have Hne := zi (fun h => DD.trans (@ver_ne _ m.ver ⟨me, ta, rfs⟩ h)); have H304 := zi (fun h h2 => DD.trans (@ver_304 _ m.ver ⟨me, ta, rfs⟩ h h2)); have H412 := zi (fun h h2 => DD.trans (@ver_412 _ m.ver ⟨me, ta, rfs⟩ h h2)); have Hpt := zi (fun h h2 => DD.trans (@ver_part _ m.ver ⟨me, ta, rfs⟩ h h2))
    rw [show m.ver.status = m.status from rfl] at Hne H304 H412 Hpt
    have HC := zi (fun w' (hx : Ext W3 w') => HRp.out w' m (hmem.ext (HE3.out.trans hx)) (fun i hi => Nat.lt_of_lt_of_le (HQ3.out i hi) hx.size) hvB (HE3.out.trans hx))
    have hcb := Hcb.out m hvB
    (try simp only at Hne H304 H412 Hpt HC hcb)
    clear DD hvk hvB hmem
    (try clear HSM); (try clear Hnv); (try clear Hvb); (try clear Hcb); (try clear HRp); (try clear Hfl); (try clear HFd); (try clear HFm); (try clear HPr); (try clear HAh); (try clear D404); (try clear Dver); (try clear Hbrd); (try clear Hbn); (try clear Hd); (try clear Hv); (try clear HE2); (try clear HW2); (try clear HE4); (try clear HE5); (try clear HX4)
    generalize chS m.ver rfs = CH at *
    obtain ⟨cf, cb, cv⟩ := CH
    obtain ⟨vaddr, vstatus, f, vbody, vars, ⟨vfA, vfn, vfc⟩, ⟨vbA, vbn, vbc⟩, ⟨vA, vn, vc⟩⟩ := m
    simp only [MV.cells, Sl.v] at *
    have c1 : w7.cell? ⟨g, i0 + k * 6 + 1, none⟩ = some (.string vaddr) := by have h1 := hc 1 _ rfl; rwa [← Nat.add_assoc] at h1
    have c2 : w7.cell? ⟨g, i0 + k * 6 + 2, none⟩ = some (.int .i64 vstatus) := by have h1 := hc 2 _ rfl; rwa [← Nat.add_assoc] at h1
    have c3 : w7.cell? ⟨g, i0 + k * 6 + 3, none⟩ = some (.slice vfA vfn vfc) := by have h1 := hc 3 _ rfl; rwa [← Nat.add_assoc] at h1
    have c4 : w7.cell? ⟨g, i0 + k * 6 + 4, none⟩ = some (.slice vbA vbn vbc) := by have h1 := hc 4 _ rfl; rwa [← Nat.add_assoc] at h1
    have c5 : w7.cell? ⟨g, i0 + k * 6 + 5, none⟩ = some (.slice vA vn vc) := by have h1 := hc 5 _ rfl; rwa [← Nat.add_assoc] at h1
    clear hc
    have hk0 : ((((k + 1 : Nat) : Int)) == 0) = false := by rw [beq_eq_false_iff_ne]; omega
    have hk00 : (((k : Int) + 1) == 0) = false := by rw [beq_eq_false_iff_ne]; omega
    have hvs9 := Hvs.out
    have hwm : IntKind.i64.wrap (((k + 1 : Nat) : Int) - 1) = (k : Int) := by rw [IntWalk.i64_in _ (by omega)]; omega
    have hwk : IntKind.i64.wrap (k : Int) = (k : Int) := IntWalk.i64_in _ (by omega)
    have hwl : IntKind.i64.wrap ((k : Int) + 1 - 1) = (k : Int) := by rw [IntWalk.i64_in _ (by omega)]; omega
    have hkn : (k : Int) < (im : Int) := by omega
    obtain ⟨s0, s1, s2, y0, y1, y2⟩ := HS.out _ HE7.out
    have HV8 := zi (Blk.new w7 36 #[.string vaddr, .int .i64 vstatus, .slice vfA vfn vfc, .slice vbA vbn vbc, .slice vA vn vc])
    have HE8 := zi (HE7.out.alloc (.cells #[.string vaddr, .int .i64 vstatus, .slice vfA vfn vfc, .slice vbA vbn vbc, .slice vA vn vc] 36))
    go_upto_region 20 with fail
    clear c1 c2 c3 c4 c5 s0 s1 s2 y0 y1 y2 hk0 hk00 hwm hwl hkn
    generalize w7.alloc (.cells #[.string vaddr, .int .i64 vstatus, .slice vfA vfn vfc, .slice vbA vbn vbc, .slice vA vn vc] 36) = w8 at *
    generalize w7.heap.size = bv at *
    have HVs := zi (fun w' (hx : Ext w8 w') => (⟨(HV8.out.ext hx).cell 0, (HV8.out.ext hx).cell 1, (HV8.out.ext hx).cell 2, (HV8.out.ext hx).cell 3, (HV8.out.ext hx).cell 4⟩ : w'.cell? ⟨bv, 0, none⟩ = some (.string vaddr) ∧ w'.cell? ⟨bv, 1, none⟩ = some (.int .i64 vstatus) ∧ w'.cell? ⟨bv, 2, none⟩ = some (.slice vfA vfn vfc) ∧ w'.cell? ⟨bv, 3, none⟩ = some (.slice vbA vbn vbc) ∧ w'.cell? ⟨bv, 4, none⟩ = some (.slice vA vn vc)))
    obtain ⟨s0, s1, s2, y0, y1, y2⟩ := HS.out _ HE8.out
    obtain ⟨v0, v1, v2, v3, v4⟩ := HVs.out _ (Ext.refl _)
    go_wp2_with fail
    refine (HC.out w8 HE8.out).mono ?_; rintro e w9 ⟨⟨fA, fn, fc⟩, ⟨dA, dn, dc⟩, rfl, hf9, hd9, hb9⟩
    clear s0 s1 s2 y0 y1 y2 v0 v1 v2 v3 v4
    have HE9 := zi (HE8.out.trans hb9)
    obtain ⟨v0, v1, v2, v3, v4⟩ := HVs.out _ hb9
    have HB10 := zi (Blk.new w9 174 #[.int .i64 vstatus, .int .i64 ((k : Int) + 1), .int .i64 (cv : Nat), .string T, .slice fA fn fc, .slice dA dn dc, .int .i64 0, .int .i64 0, .bool false])
    have HE10 := zi (HE9.out.alloc (.cells #[.int .i64 vstatus, .int .i64 ((k : Int) + 1), .int .i64 (cv : Nat), .string T, .slice fA fn fc, .slice dA dn dc, .int .i64 0, .int .i64 0, .bool false] 174))
    go_upto_region 22 with fail
    obtain ⟨Q2, hQ2⟩ : ∃ Q : Nat → Prop, Q = (fun i => QQ i ∨ i = w9.heap.size) := ⟨_, rfl⟩
    have HQ2r := zi (show Q2 (w.heap.size + 2) by rw [hQ2]; exact .inl HQ0.out)
    have HQ2b := zi (show Q2 w9.heap.size by rw [hQ2]; exact .inr rfl)
    have Hb10 := zi (show W3.heap.size ≤ w9.heap.size from HE9.out.size)
    have HQl := zi (show ∀ i, Q2 i → i < (w9.alloc (.cells #[.int .i64 vstatus, .int .i64 ((k : Int) + 1), .int .i64 (cv : Nat), .string T, .slice fA fn fc, .slice dA dn dc, .int .i64 0, .int .i64 0, .bool false] 174)).heap.size from fun i hi => by
     rw [hQ2] at hi
     rw [World.size_alloc]
     rcases hi with hi | hi
     ·have := HQ3.out i hi; have := HE9.out.size; omega
     ·omega)
    have HA10 := zi (show AnB Q2 (w9.alloc (.cells #[.int .i64 vstatus, .int .i64 ((k : Int) + 1), .int .i64 (cv : Nat), .string T, .slice fA fn fc, .slice dA dn dc, .int .i64 0, .int .i64 0, .bool false] 174)) w9.heap.size (⟨vstatus, (k : Int) + 1, (cv : Nat), T, cf, cb, 0, 0, false⟩ : Ans) ⟨fA, fn, fc⟩ ⟨dA, dn, dc⟩ from ⟨HB10.out, (hf9.more (by rw [hQ2]; exact fun i hi => hi.imp id (fun e => by omega))).ext ((Ext.refl w9).alloc _), (hd9.more (by rw [hQ2]; exact fun i hi => hi.imp id (fun e => by omega))).ext ((Ext.refl w9).alloc _)⟩)
    have HV10 := zi (hb9.trans ((Ext.refl w9).alloc (.cells #[.int .i64 vstatus, .int .i64 ((k : Int) + 1), .int .i64 (cv : Nat), .string T, .slice fA fn fc, .slice dA dn dc, .int .i64 0, .int .i64 0, .bool false] 174)))
    clear hQ2 hf9 hd9 v0 v1 v2 v3 v4 hb9 HB10
    (try clear HE9); (try clear HE8); (try clear HC); (try clear HQ3); (try clear HE7)
    generalize w9.alloc (.cells #[.int .i64 vstatus, .int .i64 ((k : Int) + 1), .int .i64 (cv : Nat), .string T, .slice fA fn fc, .slice dA dn dc, .int .i64 0, .int .i64 0, .bool false] 174) = w10 at *
    generalize w9.heap.size = b10 at *
    obtain ⟨v0, v1, v2, v3, v4⟩ := HVs.out _ HV10.out
    by_cases h200 : vstatus = 200
    rotate_left
    ·have HD := zi (Hne.out h200)
     have hq : (vstatus == 200) = false := by rw [beq_eq_false_iff_ne]; exact h200
     clear v0 v2 v3 v4
     have g0 : w10.cell? ⟨b10, 0, none⟩ = some (.int .i64 vstatus) := HA10.out.blk.cell 0
     have g1 : w10.cell? ⟨b10, 1, none⟩ = some (.int .i64 ((k : Int) + 1)) := HA10.out.blk.cell 1
     have g2 : w10.cell? ⟨b10, 2, none⟩ = some (.int .i64 (cv : Nat)) := HA10.out.blk.cell 2
     have g3 : w10.cell? ⟨b10, 3, none⟩ = some (.string T) := HA10.out.blk.cell 3
     have g4 : w10.cell? ⟨b10, 4, none⟩ = some (.slice fA fn fc) := HA10.out.blk.cell 4
     have g5 : w10.cell? ⟨b10, 5, none⟩ = some (.slice dA dn dc) := HA10.out.blk.cell 5
     have g6 : w10.cell? ⟨b10, 6, none⟩ = some (.int .i64 0) := HA10.out.blk.cell 6
     have g7 : w10.cell? ⟨b10, 7, none⟩ = some (.int .i64 0) := HA10.out.blk.cell 7
     have g8 : w10.cell? ⟨b10, 8, none⟩ = some (.bool false) := HA10.out.blk.cell 8
     go_wp2_with (first | (refine wpList_storeB rfl 174 (.tmp 6) (.tmp 113) rfl rfl (w.heap.size + 2) _ rfl rfl 174 _ (HZ.out.ext (HE10.out)) infoAn rfl (by simp [Value.oneCell']) ?_; intro w99 hB9 hx9))
     have r0 : w99.cell? ⟨w.heap.size + 2, 0, none⟩ = some (.int .i64 vstatus) := hB9.cell 0
     have r1 : w99.cell? ⟨w.heap.size + 2, 1, none⟩ = some (.int .i64 ((k : Int) + 1)) := hB9.cell 1
     have r2 : w99.cell? ⟨w.heap.size + 2, 2, none⟩ = some (.int .i64 (cv : Nat)) := hB9.cell 2
     have r3 : w99.cell? ⟨w.heap.size + 2, 3, none⟩ = some (.string T) := hB9.cell 3
     have r4 : w99.cell? ⟨w.heap.size + 2, 4, none⟩ = some (.slice fA fn fc) := hB9.cell 4
     have r5 : w99.cell? ⟨w.heap.size + 2, 5, none⟩ = some (.slice dA dn dc) := hB9.cell 5
     have r6 : w99.cell? ⟨w.heap.size + 2, 6, none⟩ = some (.int .i64 0) := hB9.cell 6
     have r7 : w99.cell? ⟨w.heap.size + 2, 7, none⟩ = some (.int .i64 0) := hB9.cell 7
     have r8 : w99.cell? ⟨w.heap.size + 2, 8, none⟩ = some (.bool false) := hB9.cell 8
     exact bodyPost_ret (v := .agg #[.int .i64 vstatus, .int .i64 ((k : Int) + 1), .int .i64 (cv : Nat), .string T, .slice fA fn fc, .slice dA dn dc, .int .i64 0, .int .i64 0, .bool false]) (by simp [results, Tryz.results100, go_sem, r0, r1, r2, r3, r4, r5, r6, r7, r8]) rfl (by rw [HD.out]; exact ⟨⟨fA, fn, fc⟩, ⟨dA, dn, dc⟩, rfl, dec_done (Q := Q2) (HE3.out.trans (HE10.out)) (by omega) HQ2r.out (HA10.out.fs) (HA10.out.bd) hx9⟩)
    subst h200
    have hfl2 := HA10.out.fs.rd.lenF
    simp only at hfl2
    go_upto_region 24 with fail
    clear v0 v1 v2 v3 v4
    go_wp2_with fail
    refine (HStt.out w10 fA fn fc cf HA10.out.fs.rd (by omega) hcb.2.1 (HE3.out.trans HE10.out)).mono ?_; rintro e w11 ⟨rfl, hb11⟩
    replace H304 := zi (fun h => H304.out (by trivial) h); replace H412 := zi (fun h => H412.out (by trivial) h); replace Hpt := zi (fun h => Hpt.out (by trivial) h)
    (try simp only at H304 H412 Hpt)
    clear Hne
    (try clear HVs); (try clear HV10); (try clear HV8); (try clear HStt); (try clear hvs9)
    generalize stS cf = st at *
    obtain ⟨ex, ht, hm, tw, tt, md⟩ := st
    simp only [stArr]
    have HT := zi (Blk.new w11 187 #[.bool ex, .bool ht, .bool hm, .bool tw, .string tt, .int .i64 md])
    have HE12 := zi ((HE10.out.trans hb11).alloc (.cells #[.bool ex, .bool ht, .bool hm, .bool tw, .string tt, .int .i64 md] 187))
    have HX12 := zi (hb11.trans ((Ext.refl w11).alloc (.cells #[.bool ex, .bool ht, .bool hm, .bool tw, .string tt, .int .i64 md] 187)))
    go_upto_region 25 with fail
    generalize w11.alloc (.cells #[.bool ex, .bool ht, .bool hm, .bool tw, .string tt, .int .i64 md] 187) = w12 at *
    generalize w11.heap.size = bt at *
    have HTs := zi (fun w' (hx : Ext w12 w') => (⟨(HT.out.ext hx).cell 0, (HT.out.ext hx).cell 1, (HT.out.ext hx).cell 2, (HT.out.ext hx).cell 3, (HT.out.ext hx).cell 4, (HT.out.ext hx).cell 5⟩ : w'.cell? ⟨bt, 0, none⟩ = some (.bool ex) ∧ w'.cell? ⟨bt, 1, none⟩ = some (.bool ht) ∧ w'.cell? ⟨bt, 2, none⟩ = some (.bool hm) ∧ w'.cell? ⟨bt, 3, none⟩ = some (.bool tw) ∧ w'.cell? ⟨bt, 4, none⟩ = some (.string tt) ∧ w'.cell? ⟨bt, 5, none⟩ = some (.int .i64 md)))
    obtain ⟨s0, s1, s2, y0, y1, y2⟩ := HS.out _ HE12.out
    obtain ⟨z0, z1, z2, z3, z4, z5⟩ := HTs.out _ (Ext.refl _)
    go_wp2_with fail
    refine (HEv.out w12 ⟨ex, ht, hm, tw, tt, md⟩ (HE3.out.trans HE12.out)).mono ?_; rintro e w13 ⟨rfl, hb13⟩
    clear s0 s1 s2 y0 y1 y2 z0 z1 z2 z3 z4 z5
    have HE13 := zi (HE12.out.trans hb13)
    have HX13 := zi (HX12.out.trans hb13)
    have HA13 := zi (HA10.out.ext HX13.out)
    have hE := HEr.out ⟨ex, ht, hm, tw, tt, md⟩
    (try simp only at hE)
    generalize evF me rfs ⟨ex, ht, hm, tw, tt, md⟩ = E at *
    (try clear HEv); (try clear HEr); (try clear HX12); (try clear HT); (try clear hb11)
    rcases hE with rfl | rfl | rfl
    rotate_left
    ·have HD := zi (H304.out (by trivial))
     go_wp2_with fail
     refine (law_Kept fA fn fc cf w13 HA13.out.fs.rd (by omega)).mono ?_; rintro e w14 ⟨⟨kA, kn, kc⟩, rfl, hk14, hb14⟩
     have HE14 := zi (HE13.out.trans hb14)
     have HA14 := zi (HA13.out.ext hb14)
     have hk15 := zi (hk14.sub (Q' := Q2) (fun i hi => Nat.lt_of_lt_of_le (HQl.out i hi) HX13.out.size))
     simp only [Sl.v]
     have k0 : w14.cell? ⟨b10, 0, none⟩ = some (.int .i64 200) := HA14.out.blk.cell 0
     have f0 : w14.frozen? ⟨b10, 0, none⟩ = false := HA14.out.blk.frozen 0
     have k4 : w14.cell? ⟨b10, 4, none⟩ = some (.slice fA fn fc) := HA14.out.blk.cell 4
     have f4 : w14.frozen? ⟨b10, 4, none⟩ = false := HA14.out.blk.frozen 4
     have k5 : w14.cell? ⟨b10, 5, none⟩ = some (.slice dA dn dc) := HA14.out.blk.cell 5
     have f5 : w14.frozen? ⟨b10, 5, none⟩ = false := HA14.out.blk.frozen 5
     go_upto_region 28 with fail
     have HAp := zi (show AnB Q2 (((w14.setCell ⟨b10, 0, none⟩ (.int .i64 304)).setCell ⟨b10, 4, none⟩ (.slice kA kn kc)).setCell ⟨b10, 5, none⟩ (.slice none 0 0)) b10 (⟨304, (k : Int) + 1, (cv : Nat), T, (kptS cf), ⟨#[]⟩, 0, 0, false⟩ : Ans) ⟨kA, kn, kc⟩ sl0 from HA14.out.put3 HQ2b.out (hk15.out) ((show RS Q2 w14 1 sl0 (bytC ⟨#[]⟩) from RS.nil _ _ _)) 304)
     have HEp := zi (show Ext W3 (((w14.setCell ⟨b10, 0, none⟩ (.int .i64 304)).setCell ⟨b10, 4, none⟩ (.slice kA kn kc)).setCell ⟨b10, 5, none⟩ (.slice none 0 0)) from (Ext.setCell (Ext.setCell (Ext.setCell HE14.out (p := ⟨b10, 0, none⟩) Hb10.out (.int .i64 304)) (p := ⟨b10, 4, none⟩) Hb10.out (.slice kA kn kc)) (p := ⟨b10, 5, none⟩) Hb10.out (.slice none 0 0)))
     clear k0 f0 k4 f4 k5 f5
     generalize (((w14.setCell ⟨b10, 0, none⟩ (.int .i64 304)).setCell ⟨b10, 4, none⟩ (.slice kA kn kc)).setCell ⟨b10, 5, none⟩ (.slice none 0 0)) = w15 at *
     have g0 : w15.cell? ⟨b10, 0, none⟩ = some (.int .i64 304) := HAp.out.blk.cell 0
     have g1 : w15.cell? ⟨b10, 1, none⟩ = some (.int .i64 ((k : Int) + 1)) := HAp.out.blk.cell 1
     have g2 : w15.cell? ⟨b10, 2, none⟩ = some (.int .i64 (cv : Nat)) := HAp.out.blk.cell 2
     have g3 : w15.cell? ⟨b10, 3, none⟩ = some (.string T) := HAp.out.blk.cell 3
     have g4 : w15.cell? ⟨b10, 4, none⟩ = some (.slice kA kn kc) := HAp.out.blk.cell 4
     have g5 : w15.cell? ⟨b10, 5, none⟩ = some (.slice none 0 0) := HAp.out.blk.cell 5
     have g6 : w15.cell? ⟨b10, 6, none⟩ = some (.int .i64 0) := HAp.out.blk.cell 6
     have g7 : w15.cell? ⟨b10, 7, none⟩ = some (.int .i64 0) := HAp.out.blk.cell 7
     have g8 : w15.cell? ⟨b10, 8, none⟩ = some (.bool false) := HAp.out.blk.cell 8
     go_wp2_with (first | (refine wpList_storeB rfl 174 (.tmp 6) (.tmp 129) rfl rfl (w.heap.size + 2) _ rfl rfl 174 _ (HZ.out.ext (HEp.out)) infoAn rfl (by simp [Value.oneCell']) ?_; intro w99 hB9 hx9))
     have r0 : w99.cell? ⟨w.heap.size + 2, 0, none⟩ = some (.int .i64 304) := hB9.cell 0
     have r1 : w99.cell? ⟨w.heap.size + 2, 1, none⟩ = some (.int .i64 ((k : Int) + 1)) := hB9.cell 1
     have r2 : w99.cell? ⟨w.heap.size + 2, 2, none⟩ = some (.int .i64 (cv : Nat)) := hB9.cell 2
     have r3 : w99.cell? ⟨w.heap.size + 2, 3, none⟩ = some (.string T) := hB9.cell 3
     have r4 : w99.cell? ⟨w.heap.size + 2, 4, none⟩ = some (.slice kA kn kc) := hB9.cell 4
     have r5 : w99.cell? ⟨w.heap.size + 2, 5, none⟩ = some (.slice none 0 0) := hB9.cell 5
     have r6 : w99.cell? ⟨w.heap.size + 2, 6, none⟩ = some (.int .i64 0) := hB9.cell 6
     have r7 : w99.cell? ⟨w.heap.size + 2, 7, none⟩ = some (.int .i64 0) := hB9.cell 7
     have r8 : w99.cell? ⟨w.heap.size + 2, 8, none⟩ = some (.bool false) := hB9.cell 8
     exact bodyPost_ret (v := .agg #[.int .i64 304, .int .i64 ((k : Int) + 1), .int .i64 (cv : Nat), .string T, .slice kA kn kc, .slice none 0 0, .int .i64 0, .int .i64 0, .bool false]) (by simp [results, Tryz.results100, go_sem, r0, r1, r2, r3, r4, r5, r6, r7, r8]) rfl (by rw [HD.out]; exact ⟨⟨kA, kn, kc⟩, sl0, rfl, dec_done (Q := Q2) (HE3.out.trans (HEp.out)) (by omega) HQ2r.out (HAp.out.fs) (HAp.out.bd) hx9⟩)
    ·have HD := zi (H412.out (by trivial))
     have k0 : w13.cell? ⟨b10, 0, none⟩ = some (.int .i64 200) := HA13.out.blk.cell 0
     have f0 : w13.frozen? ⟨b10, 0, none⟩ = false := HA13.out.blk.frozen 0
     have k4 : w13.cell? ⟨b10, 4, none⟩ = some (.slice fA fn fc) := HA13.out.blk.cell 4
     have f4 : w13.frozen? ⟨b10, 4, none⟩ = false := HA13.out.blk.frozen 4
     have k5 : w13.cell? ⟨b10, 5, none⟩ = some (.slice dA dn dc) := HA13.out.blk.cell 5
     have f5 : w13.frozen? ⟨b10, 5, none⟩ = false := HA13.out.blk.frozen 5
     go_upto_region 31 with fail
     have HAp := zi (show AnB Q2 (((w13.setCell ⟨b10, 0, none⟩ (.int .i64 412)).setCell ⟨b10, 4, none⟩ (.slice none 0 0)).setCell ⟨b10, 5, none⟩ (.slice none 0 0)) b10 (⟨412, (k : Int) + 1, (cv : Nat), T, [], ⟨#[]⟩, 0, 0, false⟩ : Ans) sl0 sl0 from HA13.out.put3 HQ2b.out ((show RS Q2 w13 2 sl0 (fldCells []) from RS.nil _ _ _)) ((show RS Q2 w13 1 sl0 (bytC ⟨#[]⟩) from RS.nil _ _ _)) 412)
     have HEp := zi (show Ext W3 (((w13.setCell ⟨b10, 0, none⟩ (.int .i64 412)).setCell ⟨b10, 4, none⟩ (.slice none 0 0)).setCell ⟨b10, 5, none⟩ (.slice none 0 0)) from (Ext.setCell (Ext.setCell (Ext.setCell HE13.out (p := ⟨b10, 0, none⟩) Hb10.out (.int .i64 412)) (p := ⟨b10, 4, none⟩) Hb10.out (.slice none 0 0)) (p := ⟨b10, 5, none⟩) Hb10.out (.slice none 0 0)))
     clear k0 f0 k4 f4 k5 f5
     generalize (((w13.setCell ⟨b10, 0, none⟩ (.int .i64 412)).setCell ⟨b10, 4, none⟩ (.slice none 0 0)).setCell ⟨b10, 5, none⟩ (.slice none 0 0)) = w15 at *
     have g0 : w15.cell? ⟨b10, 0, none⟩ = some (.int .i64 412) := HAp.out.blk.cell 0
     have g1 : w15.cell? ⟨b10, 1, none⟩ = some (.int .i64 ((k : Int) + 1)) := HAp.out.blk.cell 1
     have g2 : w15.cell? ⟨b10, 2, none⟩ = some (.int .i64 (cv : Nat)) := HAp.out.blk.cell 2
     have g3 : w15.cell? ⟨b10, 3, none⟩ = some (.string T) := HAp.out.blk.cell 3
     have g4 : w15.cell? ⟨b10, 4, none⟩ = some (.slice none 0 0) := HAp.out.blk.cell 4
     have g5 : w15.cell? ⟨b10, 5, none⟩ = some (.slice none 0 0) := HAp.out.blk.cell 5
     have g6 : w15.cell? ⟨b10, 6, none⟩ = some (.int .i64 0) := HAp.out.blk.cell 6
     have g7 : w15.cell? ⟨b10, 7, none⟩ = some (.int .i64 0) := HAp.out.blk.cell 7
     have g8 : w15.cell? ⟨b10, 8, none⟩ = some (.bool false) := HAp.out.blk.cell 8
     go_wp2_with (first | (refine wpList_storeB rfl 174 (.tmp 6) (.tmp 135) rfl rfl (w.heap.size + 2) _ rfl rfl 174 _ (HZ.out.ext (HEp.out)) infoAn rfl (by simp [Value.oneCell']) ?_; intro w99 hB9 hx9))
     have r0 : w99.cell? ⟨w.heap.size + 2, 0, none⟩ = some (.int .i64 412) := hB9.cell 0
     have r1 : w99.cell? ⟨w.heap.size + 2, 1, none⟩ = some (.int .i64 ((k : Int) + 1)) := hB9.cell 1
     have r2 : w99.cell? ⟨w.heap.size + 2, 2, none⟩ = some (.int .i64 (cv : Nat)) := hB9.cell 2
     have r3 : w99.cell? ⟨w.heap.size + 2, 3, none⟩ = some (.string T) := hB9.cell 3
     have r4 : w99.cell? ⟨w.heap.size + 2, 4, none⟩ = some (.slice none 0 0) := hB9.cell 4
     have r5 : w99.cell? ⟨w.heap.size + 2, 5, none⟩ = some (.slice none 0 0) := hB9.cell 5
     have r6 : w99.cell? ⟨w.heap.size + 2, 6, none⟩ = some (.int .i64 0) := hB9.cell 6
     have r7 : w99.cell? ⟨w.heap.size + 2, 7, none⟩ = some (.int .i64 0) := hB9.cell 7
     have r8 : w99.cell? ⟨w.heap.size + 2, 8, none⟩ = some (.bool false) := hB9.cell 8
     exact bodyPost_ret (v := .agg #[.int .i64 412, .int .i64 ((k : Int) + 1), .int .i64 (cv : Nat), .string T, .slice none 0 0, .slice none 0 0, .int .i64 0, .int .i64 0, .bool false]) (by simp [results, Tryz.results100, go_sem, r0, r1, r2, r3, r4, r5, r6, r7, r8]) rfl (by rw [HD.out]; exact ⟨sl0, sl0, rfl, dec_done (Q := Q2) (HE3.out.trans (HEp.out)) (by omega) HQ2r.out (HAp.out.fs) (HAp.out.bd) hx9⟩)
    have Hp := zi (show DA = partS (⟨200, (k : Int) + 1, (cv : Nat), T, cf, cb, 0, 0, false⟩ : Ans) ⟨me, ta, rfs⟩ ⟨ex, ht, hm, tw, tt, md⟩ from Hpt.out (by trivial))
    clear Hpt H304 H412
    have hdn : cb.size = dn := by have h9 := HA13.out.bd.len1; rw [bytC_len] at h9; exact h9
    have Hget := zi (fun h => Hp.out.trans (@part_get (⟨200, (k : Int) + 1, (cv : Nat), T, cf, cb, 0, 0, false⟩ : Ans) ⟨me, ta, rfs⟩ ⟨ex, ht, hm, tw, tt, md⟩ h)); have Hmany := zi (fun h => Hp.out.trans (@part_many (⟨200, (k : Int) + 1, (cv : Nat), T, cf, cb, 0, 0, false⟩ : Ans) ⟨me, ta, rfs⟩ ⟨ex, ht, hm, tw, tt, md⟩ h)); have Huse := zi (fun h => Hp.out.trans (@part_use (⟨200, (k : Int) + 1, (cv : Nat), T, cf, cb, 0, 0, false⟩ : Ans) ⟨me, ta, rfs⟩ ⟨ex, ht, hm, tw, tt, md⟩ h))
    have H416 := zi (fun v h1 h2 h3 h4 => Hp.out.trans (@part_416 (⟨200, (k : Int) + 1, (cv : Nat), T, cf, cb, 0, 0, false⟩ : Ans) ⟨me, ta, rfs⟩ ⟨ex, ht, hm, tw, tt, md⟩ v h1 h2 h3 h4)); have Hnone := zi (fun v h1 h2 h3 h4 h5 => Hp.out.trans (@part_none (⟨200, (k : Int) + 1, (cv : Nat), T, cf, cb, 0, 0, false⟩ : Ans) ⟨me, ta, rfs⟩ ⟨ex, ht, hm, tw, tt, md⟩ v h1 h2 h3 h4 h5))
    have Hbad := zi (fun v q h1 h2 h3 h4 h5 => Hp.out.trans (@part_bad (⟨200, (k : Int) + 1, (cv : Nat), T, cf, cb, 0, 0, false⟩ : Ans) ⟨me, ta, rfs⟩ ⟨ex, ht, hm, tw, tt, md⟩ v q h1 h2 h3 h4 h5)); have H206 := zi (fun v q text h1 h2 h3 h4 h5 => Hp.out.trans (@part_206 (⟨200, (k : Int) + 1, (cv : Nat), T, cf, cb, 0, 0, false⟩ : Ans) ⟨me, ta, rfs⟩ ⟨ex, ht, hm, tw, tt, md⟩ v q text h1 h2 h3 h4 h5))
    simp only at Hget Hmany Huse H416 Hnone Hbad H206 hcb
    rw [hdn] at H416 Hnone Hbad H206
    have hdz : dn ≤ 1048576 := by omega
    have hbz := bszF cf
    have hbz3 : Bsz 4611686018427387904 cf := fun f hf => ⟨by have := (hbz f hf).1; omega, by have := (hbz f hf).2; omega⟩
    have HSetF := zi (fun w' tx (h : RdF w' fA fn cf) => field_Set fA fn fc cf x_cr tx w' h (by omega) (by decide) hbz3)
    clear Hp hbz hbz3 hcb
    have HUq := zi (fun w' hx => HUr.out w' ⟨ex, ht, hm, tw, tt, md⟩ hx)
    (try simp only at HUq)
    generalize urF me rfs ⟨ex, ht, hm, tw, tt, md⟩ = ur at *
    (try clear HUr); (try clear Hpt)
    obtain ⟨s0, s1, s2, y0, y1, y2⟩ := HS.out _ HE13.out
    go_wp2_with fail
    refine (HAr.out w13 (HE3.out.trans HE13.out)).mono ?_; rintro e w14 ⟨lA2, ln, lc2, rfl, hls, hlc2, hb14⟩
    clear s0 s1 s2 y0 y1 y2
    have HE14 := zi (HE13.out.trans hb14); have HX14 := zi (HX13.out.trans hb14); have HA14 := zi (HA10.out.ext HX14.out); have HT14 := zi (hb13.trans hb14)
    have hll := hls.lenS
    obtain ⟨s0, s1, s2, y0, y1, y2⟩ := HS.out _ HE14.out
    cases hq : (me.toList == [71, 69, 84])
    ·have HD := zi (Hget.out hq)
     have g0 : w14.cell? ⟨b10, 0, none⟩ = some (.int .i64 200) := HA14.out.blk.cell 0
     have g1 : w14.cell? ⟨b10, 1, none⟩ = some (.int .i64 ((k : Int) + 1)) := HA14.out.blk.cell 1
     have g2 : w14.cell? ⟨b10, 2, none⟩ = some (.int .i64 (cv : Nat)) := HA14.out.blk.cell 2
     have g3 : w14.cell? ⟨b10, 3, none⟩ = some (.string T) := HA14.out.blk.cell 3
     have g4 : w14.cell? ⟨b10, 4, none⟩ = some (.slice fA fn fc) := HA14.out.blk.cell 4
     have g5 : w14.cell? ⟨b10, 5, none⟩ = some (.slice dA dn dc) := HA14.out.blk.cell 5
     have g6 : w14.cell? ⟨b10, 6, none⟩ = some (.int .i64 0) := HA14.out.blk.cell 6
     have g7 : w14.cell? ⟨b10, 7, none⟩ = some (.int .i64 0) := HA14.out.blk.cell 7
     have g8 : w14.cell? ⟨b10, 8, none⟩ = some (.bool false) := HA14.out.blk.cell 8
     go_wp2_with (first | (refine wpList_storeB rfl 174 (.tmp 6) (.tmp 214) rfl rfl (w.heap.size + 2) _ rfl rfl 174 _ (HZ.out.ext (HE14.out)) infoAn rfl (by simp [Value.oneCell']) ?_; intro w99 hB9 hx9))
     have r0 : w99.cell? ⟨w.heap.size + 2, 0, none⟩ = some (.int .i64 200) := hB9.cell 0
     have r1 : w99.cell? ⟨w.heap.size + 2, 1, none⟩ = some (.int .i64 ((k : Int) + 1)) := hB9.cell 1
     have r2 : w99.cell? ⟨w.heap.size + 2, 2, none⟩ = some (.int .i64 (cv : Nat)) := hB9.cell 2
     have r3 : w99.cell? ⟨w.heap.size + 2, 3, none⟩ = some (.string T) := hB9.cell 3
     have r4 : w99.cell? ⟨w.heap.size + 2, 4, none⟩ = some (.slice fA fn fc) := hB9.cell 4
     have r5 : w99.cell? ⟨w.heap.size + 2, 5, none⟩ = some (.slice dA dn dc) := hB9.cell 5
     have r6 : w99.cell? ⟨w.heap.size + 2, 6, none⟩ = some (.int .i64 0) := hB9.cell 6
     have r7 : w99.cell? ⟨w.heap.size + 2, 7, none⟩ = some (.int .i64 0) := hB9.cell 7
     have r8 : w99.cell? ⟨w.heap.size + 2, 8, none⟩ = some (.bool false) := hB9.cell 8
     exact bodyPost_ret (v := .agg #[.int .i64 200, .int .i64 ((k : Int) + 1), .int .i64 (cv : Nat), .string T, .slice fA fn fc, .slice dA dn dc, .int .i64 0, .int .i64 0, .bool false]) (by simp [results, Tryz.results100, go_sem, r0, r1, r2, r3, r4, r5, r6, r7, r8]) rfl (by rw [HD.out]; exact ⟨⟨fA, fn, fc⟩, ⟨dA, dn, dc⟩, rfl, dec_done (Q := Q2) (HE3.out.trans (HE14.out)) (by omega) HQ2r.out (HA14.out.fs) (HA14.out.bd) hx9⟩)
    by_cases hl1 : ln = 1
    rotate_left
    ·have HD := zi (Hmany.out (by (try simp only at hll ⊢); omega))
     have hq1 : ((ln : Int) == 1) = false := by rw [beq_eq_false_iff_ne]; omega
     have g0 : w14.cell? ⟨b10, 0, none⟩ = some (.int .i64 200) := HA14.out.blk.cell 0
     have g1 : w14.cell? ⟨b10, 1, none⟩ = some (.int .i64 ((k : Int) + 1)) := HA14.out.blk.cell 1
     have g2 : w14.cell? ⟨b10, 2, none⟩ = some (.int .i64 (cv : Nat)) := HA14.out.blk.cell 2
     have g3 : w14.cell? ⟨b10, 3, none⟩ = some (.string T) := HA14.out.blk.cell 3
     have g4 : w14.cell? ⟨b10, 4, none⟩ = some (.slice fA fn fc) := HA14.out.blk.cell 4
     have g5 : w14.cell? ⟨b10, 5, none⟩ = some (.slice dA dn dc) := HA14.out.blk.cell 5
     have g6 : w14.cell? ⟨b10, 6, none⟩ = some (.int .i64 0) := HA14.out.blk.cell 6
     have g7 : w14.cell? ⟨b10, 7, none⟩ = some (.int .i64 0) := HA14.out.blk.cell 7
     have g8 : w14.cell? ⟨b10, 8, none⟩ = some (.bool false) := HA14.out.blk.cell 8
     go_wp2_with (first | (refine wpList_storeB rfl 174 (.tmp 6) (.tmp 214) rfl rfl (w.heap.size + 2) _ rfl rfl 174 _ (HZ.out.ext (HE14.out)) infoAn rfl (by simp [Value.oneCell']) ?_; intro w99 hB9 hx9))
     have r0 : w99.cell? ⟨w.heap.size + 2, 0, none⟩ = some (.int .i64 200) := hB9.cell 0
     have r1 : w99.cell? ⟨w.heap.size + 2, 1, none⟩ = some (.int .i64 ((k : Int) + 1)) := hB9.cell 1
     have r2 : w99.cell? ⟨w.heap.size + 2, 2, none⟩ = some (.int .i64 (cv : Nat)) := hB9.cell 2
     have r3 : w99.cell? ⟨w.heap.size + 2, 3, none⟩ = some (.string T) := hB9.cell 3
     have r4 : w99.cell? ⟨w.heap.size + 2, 4, none⟩ = some (.slice fA fn fc) := hB9.cell 4
     have r5 : w99.cell? ⟨w.heap.size + 2, 5, none⟩ = some (.slice dA dn dc) := hB9.cell 5
     have r6 : w99.cell? ⟨w.heap.size + 2, 6, none⟩ = some (.int .i64 0) := hB9.cell 6
     have r7 : w99.cell? ⟨w.heap.size + 2, 7, none⟩ = some (.int .i64 0) := hB9.cell 7
     have r8 : w99.cell? ⟨w.heap.size + 2, 8, none⟩ = some (.bool false) := hB9.cell 8
     exact bodyPost_ret (v := .agg #[.int .i64 200, .int .i64 ((k : Int) + 1), .int .i64 (cv : Nat), .string T, .slice fA fn fc, .slice dA dn dc, .int .i64 0, .int .i64 0, .bool false]) (by simp [results, Tryz.results100, go_sem, r0, r1, r2, r3, r4, r5, r6, r7, r8]) rfl (by rw [HD.out]; exact ⟨⟨fA, fn, fc⟩, ⟨dA, dn, dc⟩, rfl, dec_done (Q := Q2) (HE3.out.trans (HE14.out)) (by omega) HQ2r.out (HA14.out.fs) (HA14.out.bd) hx9⟩)
    subst hl1
    obtain ⟨v, hhv⟩ : ∃ v, allS rfs x_rg = [v] := by
     match hm : allS rfs x_rg, hll with
     | [v], _ => exact ⟨v, rfl⟩
    have Hv := zi hhv
    have hvz := Hlen.out x_rg v (by rw [Hv.out]; simp)
    rw [Hv.out] at hls
    obtain ⟨lb2, lo2, hlA, d0⟩ := hls.atS (k := 0) (by simp)
    subst hlA
    rw [Nat.add_zero] at d0
    replace d0 : w14.cell? ⟨lb2, lo2, none⟩ = some (.string v) := d0
    obtain ⟨z0, z1, z2, z3, z4, z5⟩ := HTs.out _ HT14.out
    go_wp2_with fail
    refine (HUq.out w14 (HE3.out.trans HE14.out)).mono ?_; rintro e w15 ⟨rfl, hb15⟩
    have HE15 := zi (HE14.out.trans hb15); have HX15 := zi (HX14.out.trans hb15); have HA15 := zi (HA10.out.ext HX15.out)
    replace d0 := hb15.cell d0
    clear s0 s1 s2 y0 y1 y2 z0 z1 z2 z3 z4 z5 hls hll hhv hb15
    cases ur with
    | false =>
     have HD := zi (Huse.out (by trivial))
     have g0 : w15.cell? ⟨b10, 0, none⟩ = some (.int .i64 200) := HA15.out.blk.cell 0
     have g1 : w15.cell? ⟨b10, 1, none⟩ = some (.int .i64 ((k : Int) + 1)) := HA15.out.blk.cell 1
     have g2 : w15.cell? ⟨b10, 2, none⟩ = some (.int .i64 (cv : Nat)) := HA15.out.blk.cell 2
     have g3 : w15.cell? ⟨b10, 3, none⟩ = some (.string T) := HA15.out.blk.cell 3
     have g4 : w15.cell? ⟨b10, 4, none⟩ = some (.slice fA fn fc) := HA15.out.blk.cell 4
     have g5 : w15.cell? ⟨b10, 5, none⟩ = some (.slice dA dn dc) := HA15.out.blk.cell 5
     have g6 : w15.cell? ⟨b10, 6, none⟩ = some (.int .i64 0) := HA15.out.blk.cell 6
     have g7 : w15.cell? ⟨b10, 7, none⟩ = some (.int .i64 0) := HA15.out.blk.cell 7
     have g8 : w15.cell? ⟨b10, 8, none⟩ = some (.bool false) := HA15.out.blk.cell 8
     go_wp2_with (first | (refine wpList_storeB rfl 174 (.tmp 6) (.tmp 214) rfl rfl (w.heap.size + 2) _ rfl rfl 174 _ (HZ.out.ext (HE15.out)) infoAn rfl (by simp [Value.oneCell']) ?_; intro w99 hB9 hx9))
     have r0 : w99.cell? ⟨w.heap.size + 2, 0, none⟩ = some (.int .i64 200) := hB9.cell 0
     have r1 : w99.cell? ⟨w.heap.size + 2, 1, none⟩ = some (.int .i64 ((k : Int) + 1)) := hB9.cell 1
     have r2 : w99.cell? ⟨w.heap.size + 2, 2, none⟩ = some (.int .i64 (cv : Nat)) := hB9.cell 2
     have r3 : w99.cell? ⟨w.heap.size + 2, 3, none⟩ = some (.string T) := hB9.cell 3
     have r4 : w99.cell? ⟨w.heap.size + 2, 4, none⟩ = some (.slice fA fn fc) := hB9.cell 4
     have r5 : w99.cell? ⟨w.heap.size + 2, 5, none⟩ = some (.slice dA dn dc) := hB9.cell 5
     have r6 : w99.cell? ⟨w.heap.size + 2, 6, none⟩ = some (.int .i64 0) := hB9.cell 6
     have r7 : w99.cell? ⟨w.heap.size + 2, 7, none⟩ = some (.int .i64 0) := hB9.cell 7
     have r8 : w99.cell? ⟨w.heap.size + 2, 8, none⟩ = some (.bool false) := hB9.cell 8
     exact bodyPost_ret (v := .agg #[.int .i64 200, .int .i64 ((k : Int) + 1), .int .i64 (cv : Nat), .string T, .slice fA fn fc, .slice dA dn dc, .int .i64 0, .int .i64 0, .bool false]) (by simp [results, Tryz.results100, go_sem, r0, r1, r2, r3, r4, r5, r6, r7, r8]) rfl (by rw [HD.out]; exact ⟨⟨fA, fn, fc⟩, ⟨dA, dn, dc⟩, rfl, dec_done (Q := Q2) (HE3.out.trans (HE15.out)) (by omega) HQ2r.out (HA15.out.fs) (HA15.out.bd) hx9⟩)
    | true =>
    replace H416 := zi (H416.out v hq Hv.out (by trivial)); replace Hnone := zi (Hnone.out v hq Hv.out (by trivial)); replace Hbad := zi (fun q => Hbad.out v q hq Hv.out (by trivial)); replace H206 := zi (fun q text => H206.out v q text hq Hv.out (by trivial))
    clear Hget Hmany Huse
    (try clear HUq); (try clear HAr); (try clear HTs); (try clear HRx); (try clear Hlen); (try clear HS); (try clear HY); (try clear HX); (try clear HT14); (try clear HA14); (try clear HX14); (try clear HE14); (try clear HA13); (try clear HE13); (try clear HE12)
    go_wp2_with fail
    refine (HPs.out w15 v dn hvz hdz (HE3.out.trans HE15.out)).mono ?_; rintro e w16 ⟨⟨qA, qn, qc⟩, rfl, hr16, hb16⟩
    clear d0
    have HE16 := zi (HE15.out.trans hb16); have HX16 := zi (HX15.out.trans hb16); have HA16 := zi (HA10.out.ext HX16.out)
    have hen := rgP_lt v dn
    have Hr16 := zi hr16
    clear hr16
    (try clear HPs); (try clear Hv)
    generalize rgP v dn = RGv at *
    obtain ⟨en, el⟩ := RGv
    simp only at H416 Hnone Hbad H206 hen Hr16
    have hel : el.length = qn := by have h9 := Hr16.out.rd.1; rw [spnC_len] at h9; simp only at h9; omega
    rcases errV_eq0 en with ⟨h0, h2⟩ | ⟨h0, h2⟩
    rotate_left
    ·have HI := zi (fun w' => base_Is en 1 hen (by decide) (by decide) w')
     rw [h2] at HI ⊢
     go_wp2_with fail
     refine (HI.out w16).mono ?_; rintro e w17 ⟨rfl, hb17⟩
     have HE17 := zi (HE16.out.trans hb17); have HX17 := zi (HX16.out.trans hb17); have HA17 := zi (HA10.out.ext HX17.out)
     by_cases h1 : en = 1
     rotate_left
     ·rw [decide_eq_false h1]
      have HD := zi (Hnone.out h1 (.inl h0))
      have g0 : w17.cell? ⟨b10, 0, none⟩ = some (.int .i64 200) := HA17.out.blk.cell 0
      have g1 : w17.cell? ⟨b10, 1, none⟩ = some (.int .i64 ((k : Int) + 1)) := HA17.out.blk.cell 1
      have g2 : w17.cell? ⟨b10, 2, none⟩ = some (.int .i64 (cv : Nat)) := HA17.out.blk.cell 2
      have g3 : w17.cell? ⟨b10, 3, none⟩ = some (.string T) := HA17.out.blk.cell 3
      have g4 : w17.cell? ⟨b10, 4, none⟩ = some (.slice fA fn fc) := HA17.out.blk.cell 4
      have g5 : w17.cell? ⟨b10, 5, none⟩ = some (.slice dA dn dc) := HA17.out.blk.cell 5
      have g6 : w17.cell? ⟨b10, 6, none⟩ = some (.int .i64 0) := HA17.out.blk.cell 6
      have g7 : w17.cell? ⟨b10, 7, none⟩ = some (.int .i64 0) := HA17.out.blk.cell 7
      have g8 : w17.cell? ⟨b10, 8, none⟩ = some (.bool false) := HA17.out.blk.cell 8
      go_wp2_with (first | (refine wpList_storeB rfl 174 (.tmp 6) (.tmp 214) rfl rfl (w.heap.size + 2) _ rfl rfl 174 _ (HZ.out.ext (HE17.out)) infoAn rfl (by simp [Value.oneCell']) ?_; intro w99 hB9 hx9))
      have r0 : w99.cell? ⟨w.heap.size + 2, 0, none⟩ = some (.int .i64 200) := hB9.cell 0
      have r1 : w99.cell? ⟨w.heap.size + 2, 1, none⟩ = some (.int .i64 ((k : Int) + 1)) := hB9.cell 1
      have r2 : w99.cell? ⟨w.heap.size + 2, 2, none⟩ = some (.int .i64 (cv : Nat)) := hB9.cell 2
      have r3 : w99.cell? ⟨w.heap.size + 2, 3, none⟩ = some (.string T) := hB9.cell 3
      have r4 : w99.cell? ⟨w.heap.size + 2, 4, none⟩ = some (.slice fA fn fc) := hB9.cell 4
      have r5 : w99.cell? ⟨w.heap.size + 2, 5, none⟩ = some (.slice dA dn dc) := hB9.cell 5
      have r6 : w99.cell? ⟨w.heap.size + 2, 6, none⟩ = some (.int .i64 0) := hB9.cell 6
      have r7 : w99.cell? ⟨w.heap.size + 2, 7, none⟩ = some (.int .i64 0) := hB9.cell 7
      have r8 : w99.cell? ⟨w.heap.size + 2, 8, none⟩ = some (.bool false) := hB9.cell 8
      exact bodyPost_ret (v := .agg #[.int .i64 200, .int .i64 ((k : Int) + 1), .int .i64 (cv : Nat), .string T, .slice fA fn fc, .slice dA dn dc, .int .i64 0, .int .i64 0, .bool false]) (by simp [results, Tryz.results100, go_sem, r0, r1, r2, r3, r4, r5, r6, r7, r8]) rfl (by rw [HD.out]; exact ⟨⟨fA, fn, fc⟩, ⟨dA, dn, dc⟩, rfl, dec_done (Q := Q2) (HE3.out.trans (HE17.out)) (by omega) HQ2r.out (HA17.out.fs) (HA17.out.bd) hx9⟩)
     rw [decide_eq_true h1]
     have HD := zi (H416.out h1)
     have hdz2 := decV_size (n := (dn : Int)) (by omega)
     have q1 := sum_w (P := Tryz.prog) ⟨#[98, 121, 116, 101, 115, 32, 42, 47]⟩ (decV dn) (by rw [show (⟨#[98, 121, 116, 101, 115, 32, 42, 47]⟩ : ByteArray).size = 8 from rfl]; omega)
     go_wp2_with fail
     refine (base_DigitsN dn w17 (by omega) (by omega)).mono ?_; rintro e w18 ⟨rfl, hb18⟩
     have HE18 := zi (HE17.out.trans hb18); have HA18 := zi (HA17.out.ext hb18); have HX18 := zi (HX17.out.trans hb18)
     generalize decV dn = dv at *
     have hp18 : b10 < w18.heap.size := HA18.out.blk.lt
     have RF := zi (show RS Q2 (w18.alloc (.cells #[.string ⟨#[99, 111, 110, 116, 101, 110, 116, 45, 114, 97, 110, 103, 101]⟩, .string (⟨#[98, 121, 116, 101, 115, 32, 42, 47]⟩ ++ dv)] 51)) 2 ⟨some ⟨w18.heap.size, 0, none⟩, 1, 1⟩ (fldCells [(x_cr, ⟨#[98, 121, 116, 101, 115, 32, 42, 47]⟩ ++ dv)]) from ⟨Rd.lit w18 #[.string ⟨#[99, 111, 110, 116, 101, 110, 116, 45, 114, 97, 110, 103, 101]⟩, .string (⟨#[98, 121, 116, 101, 115, 32, 42, 47]⟩ ++ dv)] 51 rfl 2 1 rfl, fun _ a ha hb => by simp only [Option.some.injEq] at ha; subst ha; have h9 := HQl.out _ hb; have h8 := HX18.out.size; simp only at h9; omega, Nat.le_refl _⟩)
     have HAp := (HA18.out.ext ((Ext.refl w18).alloc (.cells #[.string ⟨#[99, 111, 110, 116, 101, 110, 116, 45, 114, 97, 110, 103, 101]⟩, .string (⟨#[98, 121, 116, 101, 115, 32, 42, 47]⟩ ++ dv)] 51))).put3 HQ2b.out RF.out (show RS Q2 _ 1 sl0 (bytC ⟨#[]⟩) from RS.nil _ _ _) 416
     have hz9 : ∀ (i : Nat) (u : Value), b10 < (w18.setCell ⟨b10, i, none⟩ u).heap.size := fun i u => by simpa [World.setCell] using hp18
     have hz8 : ∀ (i j : Nat) (u v : Value), b10 < ((w18.setCell ⟨b10, i, none⟩ u).setCell ⟨b10, j, none⟩ v).heap.size := fun i j u v => by simpa [World.setCell] using hp18
     rw [World.setCell_alloc_past _ _ _ _ hp18, World.setCell_alloc_past _ _ _ _ (hz9 _ _), World.setCell_alloc_past _ _ _ _ (hz8 _ _ _ _)] at HAp
     clear hz9 hz8
     simp only [Sl.v, sl0] at HAp
     have HAp := zi HAp
     have HEp := zi (show Ext W3 ((((w18.setCell ⟨b10, 0, none⟩ (.int .i64 416)).setCell ⟨b10, 4, none⟩ (.slice (some ⟨w18.heap.size, 0, none⟩) 1 1)).setCell ⟨b10, 5, none⟩ (.slice none 0 0)).alloc (.cells #[.string ⟨#[99, 111, 110, 116, 101, 110, 116, 45, 114, 97, 110, 103, 101]⟩, .string (⟨#[98, 121, 116, 101, 115, 32, 42, 47]⟩ ++ dv)] 51)) from (Ext.setCell (Ext.setCell (Ext.setCell HE18.out (p := ⟨b10, 0, none⟩) Hb10.out (.int .i64 416)) (p := ⟨b10, 4, none⟩) Hb10.out (.slice (some ⟨w18.heap.size, 0, none⟩) 1 1)) (p := ⟨b10, 5, none⟩) Hb10.out (.slice none 0 0)).alloc _)
     have k0 : w18.cell? ⟨b10, 0, none⟩ = some (.int .i64 200) := HA18.out.blk.cell 0
     have f0 : w18.frozen? ⟨b10, 0, none⟩ = false := HA18.out.blk.frozen 0
     have k4 : w18.cell? ⟨b10, 4, none⟩ = some (.slice fA fn fc) := HA18.out.blk.cell 4
     have f4 : w18.frozen? ⟨b10, 4, none⟩ = false := HA18.out.blk.frozen 4
     have k5 : w18.cell? ⟨b10, 5, none⟩ = some (.slice dA dn dc) := HA18.out.blk.cell 5
     have f5 : w18.frozen? ⟨b10, 5, none⟩ = false := HA18.out.blk.frozen 5
     go_upto_region 42 with fail
     clear k0 f0 k4 f4 k5 f5
     generalize ((((w18.setCell ⟨b10, 0, none⟩ (.int .i64 416)).setCell ⟨b10, 4, none⟩ (.slice (some ⟨w18.heap.size, 0, none⟩) 1 1)).setCell ⟨b10, 5, none⟩ (.slice none 0 0)).alloc (.cells #[.string ⟨#[99, 111, 110, 116, 101, 110, 116, 45, 114, 97, 110, 103, 101]⟩, .string (⟨#[98, 121, 116, 101, 115, 32, 42, 47]⟩ ++ dv)] 51)) = w19 at *
     have g0 : w19.cell? ⟨b10, 0, none⟩ = some (.int .i64 416) := HAp.out.blk.cell 0
     have g1 : w19.cell? ⟨b10, 1, none⟩ = some (.int .i64 ((k : Int) + 1)) := HAp.out.blk.cell 1
     have g2 : w19.cell? ⟨b10, 2, none⟩ = some (.int .i64 (cv : Nat)) := HAp.out.blk.cell 2
     have g3 : w19.cell? ⟨b10, 3, none⟩ = some (.string T) := HAp.out.blk.cell 3
     have g4 : w19.cell? ⟨b10, 4, none⟩ = some (.slice (some ⟨w18.heap.size, 0, none⟩) 1 1) := HAp.out.blk.cell 4
     have g5 : w19.cell? ⟨b10, 5, none⟩ = some (.slice none 0 0) := HAp.out.blk.cell 5
     have g6 : w19.cell? ⟨b10, 6, none⟩ = some (.int .i64 0) := HAp.out.blk.cell 6
     have g7 : w19.cell? ⟨b10, 7, none⟩ = some (.int .i64 0) := HAp.out.blk.cell 7
     have g8 : w19.cell? ⟨b10, 8, none⟩ = some (.bool false) := HAp.out.blk.cell 8
     go_wp2_with (first | (refine wpList_storeB rfl 174 (.tmp 6) (.tmp 214) rfl rfl (w.heap.size + 2) _ rfl rfl 174 _ (HZ.out.ext (HEp.out)) infoAn rfl (by simp [Value.oneCell']) ?_; intro w99 hB9 hx9))
     have r0 : w99.cell? ⟨w.heap.size + 2, 0, none⟩ = some (.int .i64 416) := hB9.cell 0
     have r1 : w99.cell? ⟨w.heap.size + 2, 1, none⟩ = some (.int .i64 ((k : Int) + 1)) := hB9.cell 1
     have r2 : w99.cell? ⟨w.heap.size + 2, 2, none⟩ = some (.int .i64 (cv : Nat)) := hB9.cell 2
     have r3 : w99.cell? ⟨w.heap.size + 2, 3, none⟩ = some (.string T) := hB9.cell 3
     have r4 : w99.cell? ⟨w.heap.size + 2, 4, none⟩ = some (.slice (some ⟨w18.heap.size, 0, none⟩) 1 1) := hB9.cell 4
     have r5 : w99.cell? ⟨w.heap.size + 2, 5, none⟩ = some (.slice none 0 0) := hB9.cell 5
     have r6 : w99.cell? ⟨w.heap.size + 2, 6, none⟩ = some (.int .i64 0) := hB9.cell 6
     have r7 : w99.cell? ⟨w.heap.size + 2, 7, none⟩ = some (.int .i64 0) := hB9.cell 7
     have r8 : w99.cell? ⟨w.heap.size + 2, 8, none⟩ = some (.bool false) := hB9.cell 8
     exact bodyPost_ret (v := .agg #[.int .i64 416, .int .i64 ((k : Int) + 1), .int .i64 (cv : Nat), .string T, .slice (some ⟨w18.heap.size, 0, none⟩) 1 1, .slice none 0 0, .int .i64 0, .int .i64 0, .bool false]) (by simp [results, Tryz.results100, go_sem, r0, r1, r2, r3, r4, r5, r6, r7, r8]) rfl (by rw [HD.out]; exact ⟨⟨some ⟨w18.heap.size, 0, none⟩, 1, 1⟩, sl0, rfl, dec_done (Q := Q2) (HE3.out.trans (HEp.out)) (by omega) HQ2r.out (HAp.out.fs) (HAp.out.bd) hx9⟩)
    subst h0
    rw [h2]
    by_cases hq1 : qn = 1
    rotate_left
    ·have HD := zi (Hnone.out (by decide) (.inr (by rw [hel]; exact hq1)))
     have hq2 : ((qn : Int) == 1) = false := by rw [beq_eq_false_iff_ne]; omega
     have HI := zi (fun w' => base_Is 0 1 (by decide) (by decide) (by decide) w')
     rw [h2] at HI
     go_wp2_with fail
     refine (HI.out w16).mono ?_; rintro e w17 ⟨rfl, hb17⟩
     have HE17 := zi (HE16.out.trans hb17); have HX17 := zi (HX16.out.trans hb17); have HA17 := zi (HA10.out.ext HX17.out)
     rw [show decide ((0 : Nat) = 1) = false from rfl]
     have g0 : w17.cell? ⟨b10, 0, none⟩ = some (.int .i64 200) := HA17.out.blk.cell 0
     have g1 : w17.cell? ⟨b10, 1, none⟩ = some (.int .i64 ((k : Int) + 1)) := HA17.out.blk.cell 1
     have g2 : w17.cell? ⟨b10, 2, none⟩ = some (.int .i64 (cv : Nat)) := HA17.out.blk.cell 2
     have g3 : w17.cell? ⟨b10, 3, none⟩ = some (.string T) := HA17.out.blk.cell 3
     have g4 : w17.cell? ⟨b10, 4, none⟩ = some (.slice fA fn fc) := HA17.out.blk.cell 4
     have g5 : w17.cell? ⟨b10, 5, none⟩ = some (.slice dA dn dc) := HA17.out.blk.cell 5
     have g6 : w17.cell? ⟨b10, 6, none⟩ = some (.int .i64 0) := HA17.out.blk.cell 6
     have g7 : w17.cell? ⟨b10, 7, none⟩ = some (.int .i64 0) := HA17.out.blk.cell 7
     have g8 : w17.cell? ⟨b10, 8, none⟩ = some (.bool false) := HA17.out.blk.cell 8
     go_wp2_with (first | (refine wpList_storeB rfl 174 (.tmp 6) (.tmp 214) rfl rfl (w.heap.size + 2) _ rfl rfl 174 _ (HZ.out.ext (HE17.out)) infoAn rfl (by simp [Value.oneCell']) ?_; intro w99 hB9 hx9))
     have r0 : w99.cell? ⟨w.heap.size + 2, 0, none⟩ = some (.int .i64 200) := hB9.cell 0
     have r1 : w99.cell? ⟨w.heap.size + 2, 1, none⟩ = some (.int .i64 ((k : Int) + 1)) := hB9.cell 1
     have r2 : w99.cell? ⟨w.heap.size + 2, 2, none⟩ = some (.int .i64 (cv : Nat)) := hB9.cell 2
     have r3 : w99.cell? ⟨w.heap.size + 2, 3, none⟩ = some (.string T) := hB9.cell 3
     have r4 : w99.cell? ⟨w.heap.size + 2, 4, none⟩ = some (.slice fA fn fc) := hB9.cell 4
     have r5 : w99.cell? ⟨w.heap.size + 2, 5, none⟩ = some (.slice dA dn dc) := hB9.cell 5
     have r6 : w99.cell? ⟨w.heap.size + 2, 6, none⟩ = some (.int .i64 0) := hB9.cell 6
     have r7 : w99.cell? ⟨w.heap.size + 2, 7, none⟩ = some (.int .i64 0) := hB9.cell 7
     have r8 : w99.cell? ⟨w.heap.size + 2, 8, none⟩ = some (.bool false) := hB9.cell 8
     exact bodyPost_ret (v := .agg #[.int .i64 200, .int .i64 ((k : Int) + 1), .int .i64 (cv : Nat), .string T, .slice fA fn fc, .slice dA dn dc, .int .i64 0, .int .i64 0, .bool false]) (by simp [results, Tryz.results100, go_sem, r0, r1, r2, r3, r4, r5, r6, r7, r8]) rfl (by rw [HD.out]; exact ⟨⟨fA, fn, fc⟩, ⟨dA, dn, dc⟩, rfl, dec_done (Q := Q2) (HE3.out.trans (HE17.out)) (by omega) HQ2r.out (HA17.out.fs) (HA17.out.bd) hx9⟩)
    subst hq1
    obtain ⟨q, rfl⟩ : ∃ q, el = [q] := by
     match el, hel with
     | [q], _ => exact ⟨q, rfl⟩
    obtain ⟨lo, hi⟩ := q
    replace Hbad := zi (Hbad.out (lo, hi) (by trivial)); replace H206 := zi (fun text => H206.out (lo, hi) text (by trivial))
    obtain ⟨qb, qo, hqA, hqc⟩ := Hr16.out.rd.2 (by simp [spnC])
    simp only at hqA
    subst hqA
    have hqb : b10 ≠ qb := by
     have h9 := Hr16.out.out (by simp [spnC]) ⟨qb, qo, none⟩ rfl
     have h8 := HA15.out.blk.lt
     simp only at h9
     omega
    have d0 : w16.cell? ⟨qb, qo, none⟩ = some (.int .i64 lo) := hqc 0 _ rfl
    have d1 : w16.cell? ⟨qb, qo + 1, none⟩ = some (.int .i64 hi) := hqc 1 _ rfl
    have Hd := zi (fun w' (hx : Ext w16 w') => (⟨hx.cell d0, hx.cell d1⟩ : w'.cell? ⟨qb, qo, none⟩ = some (.int .i64 lo) ∧ w'.cell? ⟨qb, qo + 1, none⟩ = some (.int .i64 hi)))
    clear hqc hel
    go_wp2_with fail
    refine (HCr.out w16 lo hi dn (HE3.out.trans HE16.out)).mono ?_; rintro e w17 ⟨rfl, hb17⟩
    clear d0 d1
    have HE17 := zi (HE16.out.trans hb17); have HX17 := zi (HX16.out.trans hb17); have HA17 := zi (HA10.out.ext HX17.out)
    replace Hd := zi (fun w' (hx : Ext w17 w') => Hd.out w' (hb17.trans hx))
    cases hcr : crP (lo, hi) dn with
    | none =>
     have HD := zi (Hbad.out hcr)
     rw [show crV none = .tuple #[.string ⟨#[]⟩, .iface 63 (.int .i64 2)] from rfl]
     have g0 : w17.cell? ⟨b10, 0, none⟩ = some (.int .i64 200) := HA17.out.blk.cell 0
     have g1 : w17.cell? ⟨b10, 1, none⟩ = some (.int .i64 ((k : Int) + 1)) := HA17.out.blk.cell 1
     have g2 : w17.cell? ⟨b10, 2, none⟩ = some (.int .i64 (cv : Nat)) := HA17.out.blk.cell 2
     have g3 : w17.cell? ⟨b10, 3, none⟩ = some (.string T) := HA17.out.blk.cell 3
     have g4 : w17.cell? ⟨b10, 4, none⟩ = some (.slice fA fn fc) := HA17.out.blk.cell 4
     have g5 : w17.cell? ⟨b10, 5, none⟩ = some (.slice dA dn dc) := HA17.out.blk.cell 5
     have g6 : w17.cell? ⟨b10, 6, none⟩ = some (.int .i64 0) := HA17.out.blk.cell 6
     have g7 : w17.cell? ⟨b10, 7, none⟩ = some (.int .i64 0) := HA17.out.blk.cell 7
     have g8 : w17.cell? ⟨b10, 8, none⟩ = some (.bool false) := HA17.out.blk.cell 8
     go_wp2_with (first | (refine wpList_storeB rfl 174 (.tmp 6) (.tmp 214) rfl rfl (w.heap.size + 2) _ rfl rfl 174 _ (HZ.out.ext (HE17.out)) infoAn rfl (by simp [Value.oneCell']) ?_; intro w99 hB9 hx9))
     have r0 : w99.cell? ⟨w.heap.size + 2, 0, none⟩ = some (.int .i64 200) := hB9.cell 0
     have r1 : w99.cell? ⟨w.heap.size + 2, 1, none⟩ = some (.int .i64 ((k : Int) + 1)) := hB9.cell 1
     have r2 : w99.cell? ⟨w.heap.size + 2, 2, none⟩ = some (.int .i64 (cv : Nat)) := hB9.cell 2
     have r3 : w99.cell? ⟨w.heap.size + 2, 3, none⟩ = some (.string T) := hB9.cell 3
     have r4 : w99.cell? ⟨w.heap.size + 2, 4, none⟩ = some (.slice fA fn fc) := hB9.cell 4
     have r5 : w99.cell? ⟨w.heap.size + 2, 5, none⟩ = some (.slice dA dn dc) := hB9.cell 5
     have r6 : w99.cell? ⟨w.heap.size + 2, 6, none⟩ = some (.int .i64 0) := hB9.cell 6
     have r7 : w99.cell? ⟨w.heap.size + 2, 7, none⟩ = some (.int .i64 0) := hB9.cell 7
     have r8 : w99.cell? ⟨w.heap.size + 2, 8, none⟩ = some (.bool false) := hB9.cell 8
     exact bodyPost_ret (v := .agg #[.int .i64 200, .int .i64 ((k : Int) + 1), .int .i64 (cv : Nat), .string T, .slice fA fn fc, .slice dA dn dc, .int .i64 0, .int .i64 0, .bool false]) (by simp [results, Tryz.results100, go_sem, r0, r1, r2, r3, r4, r5, r6, r7, r8]) rfl (by rw [HD.out]; exact ⟨⟨fA, fn, fc⟩, ⟨dA, dn, dc⟩, rfl, dec_done (Q := Q2) (HE3.out.trans (HE17.out)) (by omega) HQ2r.out (HA17.out.fs) (HA17.out.bd) hx9⟩)
    | some text =>
    have hin := crP_in hcr
    obtain ⟨i, hi0⟩ : ∃ i : Nat, lo = i := ⟨lo.toNat, by omega⟩
    obtain ⟨j, hj0⟩ : ∃ j : Nat, hi = j := ⟨hi.toNat, by omega⟩
    subst hi0; subst hj0
    have HD := zi (show DA = (⟨206, (k : Int) + 1, (cv : Nat), T, (setS x_cr text cf), (cb.extract i j), i, j, true⟩ : Ans) from (H206.out text hcr).trans rfl)
    rw [show crV (some text) = .tuple #[.string text, .nilIface] from rfl]
    have HSet := zi (fun w' tx (hx : Ext w17 w') => HSetF.out w' tx (HA17.out.ext hx).fs.rd)
    have hbc := HA17.out.bd.cap
    simp only at hbc
    have hij : i ≤ j := by omega
    have hjb : j ≤ dn := by omega
    have g1 : (0 : Int) ≤ (i : Int) := by omega
    have g2 : (i : Int) ≤ (j : Int) := by omega
    have g3 : (j : Int) ≤ (dc : Int) := by omega
    have g4 : (0 : Int) ≤ (j : Int) := by omega
    go_upto_region 38 with fail
    have hL := (Ext.refl w17).drew
    refine wp_region_held_drew (S := (fun w' => w'.cell? ⟨qb, qo, none⟩ = some (.int .i64 i) ∧ w'.cell? ⟨qb, qo + 1, none⟩ = some (.int .i64 j))) (by kernel_rfl) ?_ (fun hHeld => ?_)
    ·(try dsimp only); exact ⟨(Hd.out _ hL).1, (Hd.out _ hL).2⟩
    refine zH (v := ?_) 0 (some 182) rfl ?_ ?_; rotate_left
    ·(intro w hSw; (try dsimp only at hSw); go_simp; (try with_reducible rfl))
    try simp only [zP]
    refine zH (v := ?_) 1 (some 183) rfl ?_ ?_; rotate_left
    ·(intro w hSw; (try dsimp only at hSw); go_simp; (try with_reducible rfl))
    try simp only [zP]
    refine zH (v := ?_) 3 (some 185) rfl ?_ ?_; rotate_left
    ·(intro w hSw; (try dsimp only at hSw); go_simp; (try with_reducible rfl))
    try simp only [zP]
    refine zH (v := ?_) 4 (some 186) rfl ?_ ?_; rotate_left
    ·(intro w hSw; (try dsimp only at hSw); go_simp; (try with_reducible rfl))
    try simp only [zP]
    refine zH (v := ?_) 5 (some 187) rfl ?_ ?_; rotate_left
    ·(intro w hSw; (try dsimp only at hSw); go_simp; (try with_reducible rfl))
    try simp only [zP]
    refine zH (v := ?_) 6 (some 188) rfl ?_ ?_; rotate_left
    ·(intro w hSw; (try dsimp only at hSw); go_simp; (try with_reducible rfl))
    try simp only [zP]
    refine zH (v := ?_) 7 (some 189) rfl ?_ ?_; rotate_left
    ·(intro w hSw; (try dsimp only at hSw); go_simp; (try with_reducible rfl))
    try simp only [zP]
    refine zH (v := ?_) 8 (some 190) rfl ?_ ?_; rotate_left
    ·(intro w hSw; (try dsimp only at hSw); go_simp; (try with_reducible rfl))
    try simp only [zP]
    refine zH (v := ?_) 9 (some 191) rfl ?_ ?_; rotate_left
    ·(intro w hSw; (try dsimp only at hSw); go_simp; (try with_reducible rfl))
    try simp only [zP]
    refine zH (v := ?_) 10 (some 192) rfl ?_ ?_; rotate_left
    ·(intro w hSw; (try dsimp only at hSw); go_simp; (try with_reducible rfl))
    try simp only [zP]
    refine zH (v := ?_) 11 (some 193) rfl ?_ ?_; rotate_left
    ·(intro w hSw; (try dsimp only at hSw); go_simp; (try with_reducible rfl))
    try simp only [zP]
    refine zH (v := ?_) 12 (some 194) rfl ?_ ?_; rotate_left
    ·(intro w hSw; (try dsimp only at hSw); go_simp; (try with_reducible rfl))
    try simp only [zP]
    refine zH (v := ?_) 13 (some 195) rfl ?_ ?_; rotate_left
    ·(intro w hSw; (try dsimp only at hSw); go_simp; (try with_reducible rfl))
    try simp only [zP]
    refine zH (v := ?_) 14 (some 196) rfl ?_ ?_; rotate_left
    ·(intro w hSw; (try dsimp only at hSw); go_simp; (try with_reducible rfl))
    try simp only [zP]
    refine zH (v := ?_) 15 (some 197) rfl ?_ ?_; rotate_left
    ·(intro w hSw; (try dsimp only at hSw); go_simp; (try with_reducible rfl))
    try simp only [zP]
    refine zH (v := ?_) 16 (some 198) rfl ?_ ?_; rotate_left
    ·(intro w hSw; (try dsimp only at hSw); go_simp; (try with_reducible rfl))
    try simp only [zP]
    refine wpAnyH_ready (rs := [2]) (by kernel_rfl) (by simp) ?_
    refine AllReadyH.cons (o := ⟨some 184, _, _, _, _, _⟩) rfl (fun K hK => ?_) AllReadyH.nil
    go_simp
    refine (HSet.out _ text hL).mono ?_; rintro e w18 ⟨nA, nn, nc, rfl, -, hnc, hb18, hown18⟩; have hown18 := zi hown18; replace hL := hL.trans hb18; clear hb18
    try go_wp2_with fail
    refine hK.out _ _ ?_ (fun hHeld => ?_)
    ·(try dsimp only); exact ⟨(Hd.out _ hL).1, (Hd.out _ hL).2⟩
    clear hK K
    try simp only [zP]
    refine wpAnyH_ready (rs := [17]) (by kernel_rfl) (by simp) ?_
    refine AllReadyH.cons (o := ⟨none, _, _, _, _, _⟩) rfl (fun K hK => ?_) AllReadyH.nil
    have HBx := HA17.out.blk.ext hL; have k0 : w18.cell? ⟨b10, 0, none⟩ = some (.int .i64 200) := HBx.cell 0; have f0 : w18.frozen? ⟨b10, 0, none⟩ = false := HBx.frozen 0; have k4 : w18.cell? ⟨b10, 4, none⟩ = some (.slice fA fn fc) := HBx.cell 4; have f4 : w18.frozen? ⟨b10, 4, none⟩ = false := HBx.frozen 4; have k5 : w18.cell? ⟨b10, 5, none⟩ = some (.slice dA dn dc) := HBx.cell 5; have f5 : w18.frozen? ⟨b10, 5, none⟩ = false := HBx.frozen 5; have k6 : w18.cell? ⟨b10, 6, none⟩ = some (.int .i64 0) := HBx.cell 6; have f6 : w18.frozen? ⟨b10, 6, none⟩ = false := HBx.frozen 6; have k7 : w18.cell? ⟨b10, 7, none⟩ = some (.int .i64 0) := HBx.cell 7; have f7 : w18.frozen? ⟨b10, 7, none⟩ = false := HBx.frozen 7; have k8 : w18.cell? ⟨b10, 8, none⟩ = some (.bool false) := HBx.cell 8; have f8 : w18.frozen? ⟨b10, 8, none⟩ = false := HBx.frozen 8; clear HBx
    go_simp
    try go_wp2_with fail
    refine hK.out _ _ ?_ (fun hHeld => ?_)
    ·(try dsimp only); exact ⟨far_cell ((Hd.out _ hL).1) hqb, far_cell ((Hd.out _ hL).2) hqb⟩
    clear hK K
    try simp only [zP]
    refine zH (v := ?_) 18 (some 199) rfl ?_ ?_; rotate_left
    ·(intro w hSw; (try dsimp only at hSw); go_simp; (try with_reducible rfl))
    try simp only [zP]
    refine wpAnyH_ready (rs := [19]) (by kernel_rfl) (by simp) ?_
    refine AllReadyH.cons (o := ⟨none, _, _, _, _, _⟩) rfl (fun K hK => ?_) AllReadyH.nil
    go_simp
    try go_wp2_with fail
    refine hK.out _ _ ?_ (fun hHeld => ?_)
    ·(try dsimp only); exact ⟨far_cell (far_cell ((Hd.out _ hL).1) hqb) hqb, far_cell (far_cell ((Hd.out _ hL).2) hqb) hqb⟩
    clear hK K
    try simp only [zP]
    refine zH (v := ?_) 20 (some 200) rfl ?_ ?_; rotate_left
    ·(intro w hSw; (try dsimp only at hSw); go_simp; (try with_reducible rfl))
    try simp only [zP]
    refine wpAnyH_ready (rs := [21]) (by kernel_rfl) (by simp) ?_
    refine AllReadyH.cons (o := ⟨none, _, _, _, _, _⟩) rfl (fun K hK => ?_) AllReadyH.nil
    go_simp
    try go_wp2_with fail
    refine hK.out _ _ ?_ (fun hHeld => ?_)
    ·(try dsimp only); exact ⟨far_cell (far_cell (far_cell ((Hd.out _ hL).1) hqb) hqb) hqb, far_cell (far_cell (far_cell ((Hd.out _ hL).2) hqb) hqb) hqb⟩
    clear hK K
    try simp only [zP]
    refine zH (v := ?_) 22 (some 201) rfl ?_ ?_; rotate_left
    ·(intro w hSw; (try dsimp only at hSw); go_simp; (try with_reducible rfl))
    try simp only [zP]
    refine wpAnyH_ready (rs := [23]) (by kernel_rfl) (by simp) ?_
    refine AllReadyH.cons (o := ⟨none, _, _, _, _, _⟩) rfl (fun K hK => ?_) AllReadyH.nil
    go_simp
    try go_wp2_with fail
    refine hK.out _ _ ?_ (fun hHeld => ?_)
    ·(try dsimp only); exact ⟨far_cell (far_cell (far_cell (far_cell (far_cell ((Hd.out _ hL).1) hqb) hqb) hqb) hqb) hqb, far_cell (far_cell (far_cell (far_cell (far_cell ((Hd.out _ hL).2) hqb) hqb) hqb) hqb) hqb⟩
    clear hK K
    try simp only [zP]
    refine wpAnyH_done (by kernel_rfl) ?_ _
    go_upto_region 42 with fail
    have hB8 := (HA17.out.ext hL).bd
    have hrd : Rd w18 1 (Option.map (fun x => x.add i) dA) (j - i) (bytC (cb.extract i j)) := by
     have h1 := hB8.rd.drop (i := i) (by simp only; omega) hB8.cap
     rw [if_neg (by simp only; omega)] at h1
     have h2 := h1.take (i := j - i) (by simp only; omega)
     simp only [Nat.mul_one] at h2
     rw [bytC_cut cb i j (by omega) (by rw [hdn]; omega)] at h2
     exact h2
    have hRB : RS Q2 w18 1 ⟨Option.map (fun x => x.add i) dA, j - i, dc - i⟩ (bytC (cb.extract i j)) := ⟨hrd, fun h0 a ha hp => by
     obtain ⟨a0, ha0, rfl⟩ := Option.map_eq_some_iff.1 ha
     refine hB8.out (by rw [bytC_len]; simp only; omega) a0 ha0 ?_
     rw [show (a0.add i).block = a0.block by unfold Addr.add; split <;> rfl] at hp
     exact hp, by simp only; omega⟩
    have hRF : RS Q2 w18 2 ⟨nA, nn, nc⟩ (fldCells (setS x_cr text cf)) := ⟨Rd.of_own hown18.out, fun h1 a ha hb => by
     have h9 := (hown18.out.lt a.block (by simp only at ha; subst ha; rfl)).1
     have h8 := HQl.out _ hb
     have h7 := HX17.out.size
     have h6 : w17.drew.heap.size = w17.heap.size := rfl
     omega, hnc⟩
    have HAp := AnB.putR (AnB.put3 (HA17.out.ext hL) HQ2b.out hRF hRB 206) HQ2b.out i j
    simp only [Sl.v] at HAp
    have HAp := zi HAp
    have HEp := zi (show Ext W3 ((((((w18.setCell ⟨b10, 0, none⟩ (.int .i64 206)).setCell ⟨b10, 4, none⟩ (.slice nA nn nc)).setCell ⟨b10, 5, none⟩ (.slice (Option.map (fun x => x.add i) dA) (j - i) (dc - i))).setCell ⟨b10, 6, none⟩ (.int .i64 i)).setCell ⟨b10, 7, none⟩ (.int .i64 j)).setCell ⟨b10, 8, none⟩ (.bool true)) from (Ext.setCell (Ext.setCell (Ext.setCell (Ext.setCell (Ext.setCell (Ext.setCell (HE17.out.trans hL) (p := ⟨b10, 0, none⟩) Hb10.out (.int .i64 206)) (p := ⟨b10, 4, none⟩) Hb10.out (.slice nA nn nc)) (p := ⟨b10, 5, none⟩) Hb10.out (.slice (Option.map (fun x => x.add i) dA) (j - i) (dc - i))) (p := ⟨b10, 6, none⟩) Hb10.out (.int .i64 i)) (p := ⟨b10, 7, none⟩) Hb10.out (.int .i64 j)) (p := ⟨b10, 8, none⟩) Hb10.out (.bool true)))
    clear k0 f0 k4 f4 k5 f5 k6 f6 k7 f7 k8 f8 hB8 hrd hRB hRF
    generalize ((((((w18.setCell ⟨b10, 0, none⟩ (.int .i64 206)).setCell ⟨b10, 4, none⟩ (.slice nA nn nc)).setCell ⟨b10, 5, none⟩ (.slice (Option.map (fun x => x.add i) dA) (j - i) (dc - i))).setCell ⟨b10, 6, none⟩ (.int .i64 i)).setCell ⟨b10, 7, none⟩ (.int .i64 j)).setCell ⟨b10, 8, none⟩ (.bool true)) = w19 at *
    have g0 : w19.cell? ⟨b10, 0, none⟩ = some (.int .i64 206) := HAp.out.blk.cell 0
    have g1 : w19.cell? ⟨b10, 1, none⟩ = some (.int .i64 ((k : Int) + 1)) := HAp.out.blk.cell 1
    have g2 : w19.cell? ⟨b10, 2, none⟩ = some (.int .i64 (cv : Nat)) := HAp.out.blk.cell 2
    have g3 : w19.cell? ⟨b10, 3, none⟩ = some (.string T) := HAp.out.blk.cell 3
    have g4 : w19.cell? ⟨b10, 4, none⟩ = some (.slice nA nn nc) := HAp.out.blk.cell 4
    have g5 : w19.cell? ⟨b10, 5, none⟩ = some (.slice (Option.map (fun x => x.add i) dA) (j - i) (dc - i)) := HAp.out.blk.cell 5
    have g6 : w19.cell? ⟨b10, 6, none⟩ = some (.int .i64 (i : Nat)) := HAp.out.blk.cell 6
    have g7 : w19.cell? ⟨b10, 7, none⟩ = some (.int .i64 (j : Nat)) := HAp.out.blk.cell 7
    have g8 : w19.cell? ⟨b10, 8, none⟩ = some (.bool true) := HAp.out.blk.cell 8
    go_wp2_with (first | (refine wpList_storeB rfl 174 (.tmp 6) (.tmp 214) rfl rfl (w.heap.size + 2) _ rfl rfl 174 _ (HZ.out.ext (HEp.out)) infoAn rfl (by simp [Value.oneCell']) ?_; intro w99 hB9 hx9))
    have r0 : w99.cell? ⟨w.heap.size + 2, 0, none⟩ = some (.int .i64 206) := hB9.cell 0
    have r1 : w99.cell? ⟨w.heap.size + 2, 1, none⟩ = some (.int .i64 ((k : Int) + 1)) := hB9.cell 1
    have r2 : w99.cell? ⟨w.heap.size + 2, 2, none⟩ = some (.int .i64 (cv : Nat)) := hB9.cell 2
    have r3 : w99.cell? ⟨w.heap.size + 2, 3, none⟩ = some (.string T) := hB9.cell 3
    have r4 : w99.cell? ⟨w.heap.size + 2, 4, none⟩ = some (.slice nA nn nc) := hB9.cell 4
    have r5 : w99.cell? ⟨w.heap.size + 2, 5, none⟩ = some (.slice (Option.map (fun x => x.add i) dA) (j - i) (dc - i)) := hB9.cell 5
    have r6 : w99.cell? ⟨w.heap.size + 2, 6, none⟩ = some (.int .i64 (i : Nat)) := hB9.cell 6
    have r7 : w99.cell? ⟨w.heap.size + 2, 7, none⟩ = some (.int .i64 (j : Nat)) := hB9.cell 7
    have r8 : w99.cell? ⟨w.heap.size + 2, 8, none⟩ = some (.bool true) := hB9.cell 8
    exact bodyPost_ret (v := .agg #[.int .i64 206, .int .i64 ((k : Int) + 1), .int .i64 (cv : Nat), .string T, .slice nA nn nc, .slice (Option.map (fun x => x.add i) dA) (j - i) (dc - i), .int .i64 (i : Nat), .int .i64 (j : Nat), .bool true]) (by simp [results, Tryz.results100, go_sem, r0, r1, r2, r3, r4, r5, r6, r7, r8]) rfl (by rw [HD.out]; exact ⟨⟨nA, nn, nc⟩, ⟨Option.map (fun x => x.add i) dA, j - i, dc - i⟩, rfl, dec_done (Q := Q2) (HE3.out.trans (HEp.out)) (by omega) HQ2r.out (HAp.out.fs) (HAp.out.bd) hx9⟩)

end Go.Proofs.YtmckbcbdnckngaaGreatDoor

namespace Go.Proofs.YtmckbcbdnckngaaGreatDoor
open Go.RowKit

section
variable {P : Program} {ops : Array Oper} {o : Oper} {a : Act} {w : World} {K : Act → World → Prop} {Q : Exit → Act → World → Prop} {E : Prop}
theorem step_store55 (hgd : o.guard = none) (ty : TypeId) (x y : Operand) (ho : o.op = .store ty x y)
  (hd : o.dst = none) (g : Nat) (cells : Array Value) (hx : a.eval x = .pointer (some ⟨g, 0, none⟩)) (hy : a.eval y = .agg cells)
  (t : TypeId) (old : Array Value) (hg : Blk w g t old) (hi : (P.info? ty).map (·.size) = some cells.size)
  (hold : old.size = cells.size) (h1 : cells.all (·.oneCell') = true)
  (h : ∀ w', Blk w' g t cells → ExtB g w w' → K a w') : if Region.wanted o (yielded ops a.tmps) = true then Oper.wp P o a w K Q else E := by
 rw [if_pos (by simp [Region.wanted, hgd])]
 refine wp_store_row ty x y ho g cells hx hy t old hg hi hold h1 ?_
 rw [hd]
 exact h _ (setRow_heap w g old cells t (0, 0) hg) ⟨rfl, rfl, rfl, by simp, fun k _ hne => setRow_other w g k cells (fun e => hne (by rw [e]))⟩
end
theorem akd_len (l : List Akd) : (l.flatMap akdC).length = l.length * 7 := by
 induction l with
 | nil => rfl
 | cons x l ih => rw [List.flatMap_cons, List.length_append, ih, List.length_cons]; show 7 + _ = _; omega
theorem cl55_idem (t : Int) : cl55 (cl55 t) = cl55 t := by unfold cl55; omega
theorem own_rs {w : World} {base b2 : Nat} {e : TypeId} {k n c : Nat} {A : Option Addr} {xs : List Value} (h : w.ownsRow base e k (.slice A n c) n xs) (hc : n ≤ c) (hb : b2 ≤ base) : RS (fun i => i < b2) w k ⟨A, n, c⟩ xs :=
 ⟨Rd.of_own h, fun _ a ha hp => by
  have h9 := (h.lt a.block (by simp only at ha; subst ha; rfl)).1
  have hp' : a.block < b2 := hp
  omega, hc⟩
theorem law_Answer (Q : Nat → Prop) (s : SM) (o : Org) (t : Int) (r : Rq) (rA : Option Addr) (rn rc : Nat) (w : World) (h : s.At Q w o) (hbrd : Rd w 2 s.br.A s.br.n (o.br.flatMap spnC)) (hr : RdF w rA rn r.fs)
  (hrT : sumF r.fs + 2 * rn ≤ 1048576) (htz : r.target.size ≤ 1048576) (hbr : o.br.length ≤ 1000000) (hvs : o.vs.length ≤ 1000000) (hlg : o.lg.length ≤ 1000000) (hB : ∀ x ∈ o.vs, VerB x.2) (hg : Gl w) (hh : GlH w) (hp : GlP w) :
  Calls Tryz.prog 64 #[.agg s.cells.toArray, .int .i64 t, .agg #[.string r.method, .string r.target, .slice rA rn rc]] w fun e w' => ∃ (s' : SM) (s1 s2 : Sl), e = .returned (.tuple #[.agg s'.cells.toArray, .agg #[.int .i64 (answS o t r).1, s1.v], s2.v]) ∧
   s'.br = s.br ∧ s'.At (fun i => Q i ∧ i < w.heap.size) w' (answS o t r).2.2.2 ∧ RS (fun i => i < w.heap.size) w' 2 s1 (fldCells (answS o t r).2.1) ∧ RS (fun i => i < w.heap.size) w' 1 s2 (bytC (answS o t r).2.2.1) ∧ Ext w w' := by
 have Hans := zi (answ_eq o t r)
 have Hct := zi (show 0 ≤ cl55 t ∧ cl55 t ≤ 1099511627776 by unfold cl55; omega)
 have HAB := zi (AB_dec (o := o) (t := cl55 t) (r := r) hB)
 have HT := zi (fun w' => base_TimeO t w')
 have HDc := zi (fun w' (hx : Ext w w') => law_decide s o (cl55 t) r rA rn rc w' ((h.more (Q' := fun _ => False) (fun i hi => hi.elim)).ext hx) (hbrd.ext hx) (hr.ext hx) hrT htz hbr hvs hB (cl55_idem t) (hg.ext hx) (hh.ext hx) (hp.ext hx))
 have HGh := zi (fun w' (hx : Ext w w') => hh.ext hx)
 have HSM := zi h; have Hlg := zi hlg
 have HLn := zi (show s.lg.n = o.lg.length from by have h1 := h.lg.rd.1; rw [akd_len] at h1; have := h.len; omega)
 generalize answS o t r = AW at *
 generalize cl55 t = t1 at *
 generalize decS55 o t1 r = A at *
 clear h hbrd hr hrT htz hbr hvs hB hg hh hp
 obtain ⟨me, ta, rfs⟩ := r
 obtain ⟨⟨iA, im, ic⟩, ⟨bA, bn, bc⟩, ⟨lA, ln, lc⟩, mv, ks⟩ := s
 obtain rfl := Hans.out
 clear Hans
 simp only [SM.cells, Sl.v] at *
 have hsz1 : (w.alloc (.cells #[.slice iA im ic, .slice bA bn bc, .slice lA ln lc] 74)).heap.size = w.heap.size + 1 := by simp
 have hsz2 : ((w.alloc (.cells #[.slice iA im ic, .slice bA bn bc, .slice lA ln lc] 74)).alloc (.cells #[.string me, .string ta, .slice rA rn rc] 42)).heap.size = w.heap.size + 2 := by simp
 have hsz3 : (((w.alloc (.cells #[.slice iA im ic, .slice bA bn bc, .slice lA ln lc] 74)).alloc (.cells #[.string me, .string ta, .slice rA rn rc] 42)).alloc (.cells #[.slice none 0 0, .slice none 0 0, .slice none 0 0] 74)).heap.size = w.heap.size + 3 := by simp
 have HX := zi ((((Blk.new w 74 #[.slice iA im ic, .slice bA bn bc, .slice lA ln lc]).alloc (.cells #[.string me, .string ta, .slice rA rn rc] 42)).alloc (.cells #[.slice none 0 0, .slice none 0 0, .slice none 0 0] 74)).alloc (.cells #[.int .i64 0, .slice none 0 0] 38))
 have HY := zi (((Blk.new (w.alloc (.cells #[.slice iA im ic, .slice bA bn bc, .slice lA ln lc] 74)) 42 #[.string me, .string ta, .slice rA rn rc]).alloc (.cells #[.slice none 0 0, .slice none 0 0, .slice none 0 0] 74)).alloc (.cells #[.int .i64 0, .slice none 0 0] 38))
 have HS6 := zi ((Blk.new ((w.alloc (.cells #[.slice iA im ic, .slice bA bn bc, .slice lA ln lc] 74)).alloc (.cells #[.string me, .string ta, .slice rA rn rc] 42)) 74 #[.slice none 0 0, .slice none 0 0, .slice none 0 0]).alloc (.cells #[.int .i64 0, .slice none 0 0] 38))
 have HR7 := zi (Blk.new (((w.alloc (.cells #[.slice iA im ic, .slice bA bn bc, .slice lA ln lc] 74)).alloc (.cells #[.string me, .string ta, .slice rA rn rc] 42)).alloc (.cells #[.slice none 0 0, .slice none 0 0, .slice none 0 0] 74)) 38 #[.int .i64 0, .slice none 0 0])
 have HE4 := zi (((((Ext.refl w).alloc (.cells #[.slice iA im ic, .slice bA bn bc, .slice lA ln lc] 74)).alloc (.cells #[.string me, .string ta, .slice rA rn rc] 42)).alloc (.cells #[.slice none 0 0, .slice none 0 0, .slice none 0 0] 74)).alloc (.cells #[.int .i64 0, .slice none 0 0] 38))
 rw [hsz1] at HY
 rw [hsz2] at HS6
 rw [hsz3] at HR7
 go_enter Tryz.func64, Tryz.ntmps64
 go_upto_region 1 with fail
 (try rw [hsz1]); (try rw [hsz2]); (try rw [hsz3])
 have hw4 : ((((w.alloc (.cells #[.slice iA im ic, .slice bA bn bc, .slice lA ln lc] 74)).alloc (.cells #[.string me, .string ta, .slice rA rn rc] 42)).alloc (.cells #[.slice none 0 0, .slice none 0 0, .slice none 0 0] 74)).alloc (.cells #[.int .i64 0, .slice none 0 0] 38)).heap.size = w.heap.size + 4 := by simp
 generalize ((((w.alloc (.cells #[.slice iA im ic, .slice bA bn bc, .slice lA ln lc] 74)).alloc (.cells #[.string me, .string ta, .slice rA rn rc] 42)).alloc (.cells #[.slice none 0 0, .slice none 0 0, .slice none 0 0] 74)).alloc (.cells #[.int .i64 0, .slice none 0 0] 38)) = W4 at *
 have Hw4 := zi hw4
 clear hsz1 hsz2 hsz3 hw4
 have HSs := zi (fun w' (hx : Ext W4 w') => (⟨(HX.out.ext hx).cell 0, (HX.out.ext hx).cell 1, (HX.out.ext hx).cell 2, (HY.out.ext hx).cell 0, (HY.out.ext hx).cell 1, (HY.out.ext hx).cell 2⟩ : w'.cell? ⟨w.heap.size, 0, none⟩ = some (.slice iA im ic) ∧ w'.cell? ⟨w.heap.size, 1, none⟩ = some (.slice bA bn bc) ∧ w'.cell? ⟨w.heap.size, 2, none⟩ = some (.slice lA ln lc) ∧ w'.cell? ⟨w.heap.size + 1, 0, none⟩ = some (.string me) ∧ w'.cell? ⟨w.heap.size + 1, 1, none⟩ = some (.string ta) ∧ w'.cell? ⟨w.heap.size + 1, 2, none⟩ = some (.slice rA rn rc)))
 go_wp2_with fail
 refine (HT.out _).mono ?_; rintro e w1 ⟨rfl, hw1⟩; have hw1 := hw1.symm; subst hw1
 obtain ⟨s0, s1, s2, y0, y1, y2⟩ := HSs.out _ (Ext.refl _)
 go_wp2_with fail
 refine (HDc.out _ HE4.out).mono ?_; rintro e w2 ⟨⟨fA, fn, fc⟩, ⟨dA, dn, dc⟩, rfl, hf2, hd2, hb2⟩
 clear s0 s1 s2 y0 y1 y2
 simp only [anC, Sl.v]
 have HB9 := zi (Blk.new w2 174 #[.int .i64 A.status, .int .i64 A.version, .int .i64 A.variant, .string A.addr, .slice fA fn fc, .slice dA dn dc, .int .i64 A.lo, .int .i64 A.hi, .bool A.ranged])
 have HE3 := zi (hb2.alloc (.cells #[.int .i64 A.status, .int .i64 A.version, .int .i64 A.variant, .string A.addr, .slice fA fn fc, .slice dA dn dc, .int .i64 A.lo, .int .i64 A.hi, .bool A.ranged] 174))
 have HF3 := zi (hf2.rd.ext ((Ext.refl w2).alloc (.cells #[.int .i64 A.status, .int .i64 A.version, .int .i64 A.variant, .string A.addr, .slice fA fn fc, .slice dA dn dc, .int .i64 A.lo, .int .i64 A.hi, .bool A.ranged] 174))); have HD3 := zi (hd2.rd.ext ((Ext.refl w2).alloc (.cells #[.int .i64 A.status, .int .i64 A.version, .int .i64 A.variant, .string A.addr, .slice fA fn fc, .slice dA dn dc, .int .i64 A.lo, .int .i64 A.hi, .bool A.ranged] 174)))
 have hfn := hf2.rd.lenF
 have hdn : A.body.size = dn := by have h9 := hd2.len1; rw [bytC_len] at h9; exact h9
 have Hfn := zi hfn; have Hdn := zi hdn
 have Hw3 := zi (show (w2.alloc (.cells #[.int .i64 A.status, .int .i64 A.version, .int .i64 A.variant, .string A.addr, .slice fA fn fc, .slice dA dn dc, .int .i64 A.lo, .int .i64 A.hi, .bool A.ranged] 174)).heap.size = w2.heap.size + 1 by simp)
 have Hb9 := zi (show W4.heap.size ≤ w2.heap.size from hb2.size)
 go_upto_region 3 with fail
 clear hf2 hd2 hb2 hfn hdn
 generalize w2.alloc (.cells #[.int .i64 A.status, .int .i64 A.version, .int .i64 A.variant, .string A.addr, .slice fA fn fc, .slice dA dn dc, .int .i64 A.lo, .int .i64 A.hi, .bool A.ranged] 174) = w3 at *
 generalize w2.heap.size = b9 at *
 have HBs := zi (fun w' (hx : Ext w3 w') => (⟨(HB9.out.ext hx).cell 0, (HB9.out.ext hx).cell 1, (HB9.out.ext hx).cell 2, (HB9.out.ext hx).cell 3, (HB9.out.ext hx).cell 4, (HB9.out.ext hx).cell 5, (HB9.out.ext hx).cell 6, (HB9.out.ext hx).cell 7, (HB9.out.ext hx).cell 8⟩ : w'.cell? ⟨b9, 0, none⟩ = some (.int .i64 A.status) ∧ w'.cell? ⟨b9, 1, none⟩ = some (.int .i64 A.version) ∧ w'.cell? ⟨b9, 2, none⟩ = some (.int .i64 A.variant) ∧ w'.cell? ⟨b9, 3, none⟩ = some (.string A.addr) ∧ w'.cell? ⟨b9, 4, none⟩ = some (.slice fA fn fc) ∧ w'.cell? ⟨b9, 5, none⟩ = some (.slice dA dn dc) ∧ w'.cell? ⟨b9, 6, none⟩ = some (.int .i64 A.lo) ∧ w'.cell? ⟨b9, 7, none⟩ = some (.int .i64 A.hi) ∧ w'.cell? ⟨b9, 8, none⟩ = some (.bool A.ranged)))
 have hq3 : IntKind.i64.wrap (t1.tdiv 1000) = t1 / 1000 := by
  have := Hct.out
  rw [Int.tdiv_eq_ediv_of_nonneg this.1]
  exact IntWalk.i64_in _ (by omega)
 go_wp2_with fail
 refine (http_Format (t1 / 1000) w3 (by have := Hct.out; omega) (by have := Hct.out; omega) (HGh.out _ (HE4.out.trans HE3.out))).mono ?_; rintro e w4 ⟨rfl, hb4⟩
 clear hq3
 have HE4b := zi hb4
 have Hdz := zi (fmtS_len (n := t1 / 1000) (by have := Hct.out; omega) (by have := Hct.out; omega))
 have HFS := zi (show ansF A t1 = if emS A then setS x_dt (fmtS (t1 / 1000)) A.fs else setS x_cl (decV A.body.size) (setS x_dt (fmtS (t1 / 1000)) A.fs) from rfl)
 generalize fmtS (t1 / 1000) = date at *
 have hab := HAB.out.len; have hfn := Hfn.out
 obtain ⟨-, -, -, -, z4, -⟩ := HBs.out _ hb4
 obtain ⟨-, -, -, -, q4, -⟩ := HBs.out _ (hb4.trans ((Ext.refl w4).alloc (.cells #[] 51)))
 go_wp2_with (at_builtin; refine wpList_app _ rfl (.tmp 26) (.tmp 28) 33 rfl w4 51 _ 2 32 Tryz.underlying33 info_cln_F (by simp [Value.cells]) (by decide) _ _ _ rfl (own_made55 (Ext.refl w4)) fA fn fc (fldCells A.fs) rfl (HF3.out.ext (hb4.trans ((Ext.refl w4).alloc _))) (fldCells_one _) ((Ext.refl w4).alloc _) (by omega) (by decide) ?_; intro A4 c4 w5 hown5 hb5 hle5)
 rw [Nat.zero_add] at hown5 hle5; rw [List.nil_append] at hown5
 have HS1 := zi (field_Set A4 fn c4 A.fs x_dt date w5 (Rd.of_own hown5) (by omega) (by decide) HAB.out.bsz)
 clear z4 q4
 refine HS1.out.mono ?_; rintro e w6 ⟨gA, gn, gc, rfl, hg6, hgc, hb6, hown6⟩
 have HE6 := zi (hb4.trans (hb5.trans hb6))
 have HG6 := zi (show RS (fun i => i < w3.heap.size) w6 2 ⟨gA, gn, gc⟩ (fldCells (setS x_dt date A.fs)) from own_rs hown6 hgc (by have := hb5.size; have := HE4b.out.size; omega))
 have HgN := zi (show gn ≤ 131076 by have h1 := hg6.lenF; have h2 := setS_len x_dt date A.fs; omega)
 clear hown6 hg6 hgc hb5 hb6 hb4 HS1 hown5 hle5 HE4b
 go_upto_region 5 with fail
 go_cut [39] (fun v wx => v = .bool (!(emS A)) ∧ w6 = wx)
 case first =>
  obtain ⟨z0, -⟩ := HBs.out _ HE6.out
  have HEm := zi (show emS A = (A.status == 204 || A.status == 304) from rfl)
  generalize emS A = em at *
  generalize A.status = st at *
  cases q1 : (st == 204)
  ·have q3 : (st != 204) = true := by simp only [bne, q1]; rfl
   cases q2 : (st == 304)
   ·have q4 : (st != 304) = true := by simp only [bne, q2]; rfl
    go_wp2_with fail
    go_meet
    exact ⟨by rw [HEm.out, q1, q2]; rfl, rfl⟩
   ·have q4 : (st != 304) = false := by simp only [bne, q2]; rfl
    go_wp2_with fail
    go_meet
    exact ⟨by rw [HEm.out, q1, q2]; rfl, rfl⟩
  ·have q3 : (st != 204) = false := by simp only [bne, q1]; rfl
   go_wp2_with fail
   go_meet
   exact ⟨by rw [HEm.out, q1]; rfl, rfl⟩
 case rest =>
 obtain ⟨rfl, rfl⟩ := hcut
 obtain ⟨em, hem⟩ : ∃ em, emS A = em := ⟨_, rfl⟩
 rw [hem]
 have Hem := zi hem
 clear hem
 go_upto_if 39 with fail
 go_cut [12] (fun v wx => ∃ s : Sl, v = s.v ∧ RS (fun i => i < w3.heap.size) wx 2 s (fldCells (ansF A t1)) ∧ Ext w6 wx)
 case first =>
  cases em with
  | true =>
   have HF := zi (show ansF A t1 = setS x_dt date A.fs by rw [HFS.out, Hem.out, if_pos rfl])
   go_wp2_with fail
   go_meet
   exact ⟨⟨gA, gn, gc⟩, rfl, by rw [HF.out]; exact HG6.out, Ext.refl _⟩
  | false =>
   have HF := zi (show ansF A t1 = setS x_cl (decV A.body.size) (setS x_dt date A.fs) by rw [HFS.out, Hem.out, if_neg (by simp)])
   obtain ⟨-, -, -, -, -, z5, -⟩ := HBs.out _ HE6.out
   have hbb := HAB.out.bdy
   have hbn := Hdn.out
   have HIt := zi (show Calls Tryz.prog 19 #[.int .i64 (dn : Nat)] w6 fun e w'' => e = .returned (.string (decV A.body.size)) ∧ Ext w6 w'' from by rw [hbn]; exact base_DigitsN dn w6 (by omega) (by omega))
   have HS2 := zi (fun w' (hx : Ext w6 w') => field_Set gA gn gc (setS x_dt date A.fs) x_cl (decV A.body.size) w' (HG6.out.rd.ext hx) (by have := HgN.out; omega) (by decide) (setS_bsz (by decide) (by have := Hdz.out; omega) HAB.out.bsz))
   clear hbb hbn
   generalize decV A.body.size = dv at *
   go_wp2_with fail
   refine HIt.out.mono ?_; rintro e w7 ⟨rfl, hb7⟩
   clear z5
   go_wp2_with fail
   refine (HS2.out _ hb7).mono ?_; rintro e w8 ⟨kA, kn, kc, rfl, hk, hkc, hb8, hown8⟩
   go_wp2_with fail
   go_meet
   exact ⟨⟨kA, kn, kc⟩, rfl, by rw [HF.out]; exact own_rs hown8 hkc (by have := HE6.out.size; have := hb7.size; omega), hb7.trans hb8⟩
 case rest =>
 obtain ⟨⟨fA1, fn1, fc1⟩, rfl, hF1, hE7⟩ := hcut
 have HF1 := zi hF1; have HE7 := zi (HE6.out.trans hE7)
 clear hF1 hE7 HE6 HG6 HgN HFS hab hfn
 generalize wc = w7 at *
 simp only [Sl.v]
 obtain ⟨-, -, -, -, -, z5, -⟩ := HBs.out _ HE7.out
 obtain ⟨-, -, -, -, -, q5, -⟩ := HBs.out _ (HE7.out.trans ((Ext.refl w7).alloc (.cells #[] 5)))
 have hbb := HAB.out.bdy; have hbn := Hdn.out
 go_upto_region 8 with (at_builtin; refine wpList_app _ rfl (.tmp 46) (.tmp 48) 23 rfl w7 5 _ 1 1 Tryz.underlying23 info_cln_B (by simp [Value.cells]) (by decide) _ _ _ rfl (own_made55 (Ext.refl w7)) dA dn dc (bytC A.body) rfl (HD3.out.ext (HE7.out.trans ((Ext.refl w7).alloc _))) (bytC_one _) ((Ext.refl w7).alloc _) (by omega) (by decide) ?_; intro A8 c8 w8 hown8 hb8 hle8)
 rw [Nat.zero_add] at hown8 hle8; (try rw [Nat.zero_add]); rw [List.nil_append] at hown8
 have HC := zi (show RS (fun i => i < w3.heap.size) w8 1 ⟨A8, dn, c8⟩ (bytC A.body) from own_rs hown8 hle8 HE7.out.size)
 have HE8 := zi (HE7.out.trans hb8); have HF8 := zi (HF1.out.ext hb8)
 clear z5 q5 hown8 hb8 hle8 hbb hbn HF1 HE7
 go_cut [62] (fun v wx => v = .bool (me.toList == [72, 69, 65, 68] || em) ∧ w8 = wx)
 case first =>
  obtain ⟨z0, -⟩ := HBs.out _ HE8.out
  obtain ⟨-, -, -, y0, -⟩ := HSs.out _ (HE3.out.trans HE8.out)
  have HEm := zi (show em = (A.status == 204 || A.status == 304) from Hem.out.symm)
  generalize A.status = st at *
  cases q : (me.toList == [72, 69, 65, 68])
  ·cases q1 : (st == 204)
   ·cases q2 : (st == 304)
    ·go_wp2_with fail
     go_meet
     exact ⟨by rw [HEm.out, q, q1, q2]; rfl, rfl⟩
    ·go_wp2_with fail
     go_meet
     exact ⟨by rw [HEm.out, q, q1, q2]; rfl, rfl⟩
   ·go_wp2_with fail
    go_meet
    exact ⟨by rw [HEm.out, q, q1]; rfl, rfl⟩
  ·go_wp2_with fail
   go_meet
   exact ⟨by rw [q]; rfl, rfl⟩
 case rest =>
 obtain ⟨rfl, rfl⟩ := hcut
 obtain ⟨z, hz⟩ : ∃ z, (me.toList == [72, 69, 65, 68] || em) = z := ⟨_, rfl⟩
 rw [hz]
 have Hz := zi (show (emS A || me.toList == [72, 69, 65, 68]) = z by rw [Hem.out, Bool.or_comm]; exact hz)
 clear hz
 go_upto_if 62 with fail
 go_cut [13] (fun v wx => ∃ s : Sl, v = s.v ∧ RS (fun i => i < w3.heap.size) wx 1 s (bytC (ansB A me)) ∧ w8 = wx)
 case first =>
  cases z with
  | true =>
   have HB := zi (show ansB A me = ⟨#[]⟩ by unfold ansB; rw [if_pos Hz.out])
   go_wp2_with fail
   go_meet
   exact ⟨sl0, rfl, by rw [HB.out]; exact RS.nil _ _ _, rfl⟩
  | false =>
   have HB := zi (show ansB A me = A.body by unfold ansB; rw [if_neg (by rw [Hz.out]; simp)])
   go_wp2_with fail
   go_meet
   exact ⟨⟨A8, dn, c8⟩, rfl, by rw [HB.out]; exact HC.out, rfl⟩
 case rest =>
 obtain ⟨⟨eA, en, ec⟩, rfl, hD, rfl⟩ := hcut
 have HD := zi hD
 clear hD HC Hz
 simp only [Sl.v]
 go_upto_region 10 with fail
 go_cut [65] (fun v wx => v = .bool (!A.ranged) ∧ w8 = wx)
 case first =>
  obtain ⟨z0, z1, z2, z3, z4, z5, z6, z7, z8⟩ := HBs.out _ HE8.out
  generalize A.ranged = rg at *
  go_wp2_with fail
  go_meet
  exact ⟨rfl, rfl⟩
 case rest =>
 obtain ⟨rfl, rfl⟩ := hcut
 obtain ⟨rg, hrg⟩ : ∃ rg, A.ranged = rg := ⟨_, rfl⟩
 rw [hrg]
 have Hrg := zi hrg
 clear hrg
 go_upto_if 65 with fail
 go_cut [9, 65] (fun v u wx => v = .pointer (some ⟨b9, 0, none⟩) ∧ ∃ lo hi : Int, Blk wx b9 174 #[.int .i64 A.status, .int .i64 A.version, .int .i64 A.variant, .string A.addr, .slice fA fn fc, .slice dA dn dc, .int .i64 lo, .int .i64 hi, .bool A.ranged] ∧ Keeps (fun i => i = b9) w8 wx)
 case first =>
  have HBk := zi (HB9.out.ext HE8.out)
  cases rg with
  | true =>
   go_wp2_with fail
   go_meet
   exact ⟨rfl, _, _, HBk.out, Keeps.refl _ _⟩
  | false =>
   have k6 : w8.cell? ⟨b9, 6, none⟩ = some (.int .i64 A.lo) := HBk.out.cell 6
   have k7 : w8.cell? ⟨b9, 7, none⟩ = some (.int .i64 A.hi) := HBk.out.cell 7
   have f6 : w8.frozen? ⟨b9, 6, none⟩ = false := HBk.out.frozen 6
   have f7 : w8.frozen? ⟨b9, 7, none⟩ = false := HBk.out.frozen 7
   go_wp2_with fail
   go_meet
   exact ⟨rfl, _, _, (HBk.out.set_ 6 (.int .i64 0)).set_ 7 (.int .i64 (en : Nat)), ((Keeps.refl (fun i => i = b9) w8).set_ (b := b9) rfl 6 _).set_ (b := b9) rfl 7 _⟩
 case rest =>
 obtain ⟨rfl, lo, hi, hBk, hK9⟩ := hcut
 generalize wc = w9 at *
 have Hlt := zi (show b9 < w3.heap.size by have := Hw3.out; omega)
 have HE9 := zi ((HE3.out.trans HE8.out).keeps hK9 (fun i hi => by rw [show i = b9 from hi]; exact Hb9.out))
 have HBk := zi hBk
 have HF9 := zi (HF8.out.keep hK9 (fun i hi => .inl (by rw [show i = b9 from hi]; exact Hlt.out)))
 have HD9 := zi (HD.out.keep hK9 (fun i hi => .inl (by rw [show i = b9 from hi]; exact Hlt.out)))
 have H39 := zi (show w3.heap.size ≤ w9.heap.size from Nat.le_trans HE8.out.size hK9.size)
 clear hBk hK9 HBs HB9 HF8 HD HE8 Hrg Hem HF3 HD3 Hdz Hfn Hdn HAB HDc HT HGh
 have HLg := zi (show Rd w9 7 lA ln (ks.flatMap akdC) from (HSM.out.lg.rd.ext HE4.out).ext HE9.out)
 have hln : ln ≤ 1000000 := by have := HLn.out; have := Hlg.out; omega
 obtain ⟨kq, hkq⟩ : ∃ kq : Akd, kq = ⟨t1, A.status, A.version, A.variant, A.addr, lo, hi⟩ := ⟨_, rfl⟩
 have HKc := zi (show akdC kq = #[.int .i64 t1, .int .i64 A.status, .int .i64 A.version, .int .i64 A.variant, .string A.addr, .int .i64 lo, .int .i64 hi].toList by rw [hkq]; rfl)
 clear hkq
 have HC12 := zi (fun w' (hx : Ext w9 w') => (⟨((HX.out.ext HE9.out).ext hx).cell 2, (HBk.out.ext hx).cell 0, (HBk.out.ext hx).cell 1, (HBk.out.ext hx).cell 2, (HBk.out.ext hx).cell 3, (HBk.out.ext hx).cell 6, (HBk.out.ext hx).cell 7⟩ : w'.cell? ⟨w.heap.size, 2, none⟩ = some (.slice lA ln lc) ∧ w'.cell? ⟨b9, 0, none⟩ = some (.int .i64 A.status) ∧ w'.cell? ⟨b9, 1, none⟩ = some (.int .i64 A.version) ∧ w'.cell? ⟨b9, 2, none⟩ = some (.int .i64 A.variant) ∧ w'.cell? ⟨b9, 3, none⟩ = some (.string A.addr) ∧ w'.cell? ⟨b9, 6, none⟩ = some (.int .i64 lo) ∧ w'.cell? ⟨b9, 7, none⟩ = some (.int .i64 hi)))
 have Hl0 := zi (show w.heap.size < w3.heap.size by have := Hb9.out; have := Hw4.out; have := Hw3.out; omega)
 have Hl2 := zi (show w.heap.size + 2 < w3.heap.size by have := Hb9.out; have := Hw4.out; have := Hw3.out; omega)
 have Hl3 := zi (show w.heap.size + 3 < w3.heap.size by have := Hb9.out; have := Hw4.out; have := Hw3.out; omega)
 go_upto_region 12 with fail
 go_cut [9] (fun v wx => v = .pointer (some ⟨b9, 0, none⟩) ∧ ∃ A9 c9, RS (fun i => i < w3.heap.size) wx 7 ⟨A9, ln + 1, c9⟩ (ks.flatMap akdC ++ akdC kq) ∧ Blk wx w.heap.size 74 #[.slice iA im ic, .slice bA bn bc, .slice A9 (ln + 1) c9] ∧ Blk wx (w.heap.size + 2) 74 #[.slice none 0 0, .slice none 0 0, .slice none 0 0] ∧ Blk wx (w.heap.size + 3) 38 #[.int .i64 0, .slice none 0 0] ∧ Blk wx b9 174 #[.int .i64 A.status, .int .i64 A.version, .int .i64 A.variant, .string A.addr, .slice fA fn fc, .slice dA dn dc, .int .i64 lo, .int .i64 hi, .bool A.ranged] ∧ Ext w wx ∧ Keeps (fun i => i < w3.heap.size) w9 wx)
 case first =>
  rename_i J0 K0 hJ0 hK0
  have hL := (Ext.refl w9).drew
  refine wp_region_U (S := (fun w' => w'.cell? ⟨w.heap.size, 2, none⟩ = some (.slice lA ln lc) ∧ w'.cell? ⟨b9, 0, none⟩ = some (.int .i64 A.status) ∧ w'.cell? ⟨b9, 1, none⟩ = some (.int .i64 A.version) ∧ w'.cell? ⟨b9, 2, none⟩ = some (.int .i64 A.variant) ∧ w'.cell? ⟨b9, 3, none⟩ = some (.string A.addr) ∧ w'.cell? ⟨b9, 6, none⟩ = some (.int .i64 lo) ∧ w'.cell? ⟨b9, 7, none⟩ = some (.int .i64 hi))) 19 (by kernel_rfl) ?_ (fun hHeld => ?_)
  ·(try dsimp only); exact HC12.out _ hL
  refine wpAnyU_takeW (i := 1) (oi := ⟨some 71, _, _, _, _, _⟩) (v := ?_) (by kernel_rfl) rfl (by kernel_rfl) (by kernel_rfl) (by kernel_rfl) (fun _ _ _ h => h) (Or.inl ⟨by rfl, ?_⟩) (by assumption) ?_
  rotate_left
  ·(intro w hSw; (try dsimp only at hSw); go_simp; (try with_reducible rfl))
  try simp only [zP]
  refine wpAnyU_take (i := 2) (oi := ⟨some 72, _, _, _, _, _⟩) (v := ?_) [3, 17, 18, 19] (by kernel_rfl) (by kernel_rfl) (by kernel_rfl) (by kernel_rfl) rfl (by kernel_rfl) (by kernel_rfl) (by kernel_rfl) (fun _ _ _ h => h) (Or.inl ⟨by rfl, ?_⟩) (by assumption) ?_
  rotate_left
  ·(intro w hSw; (try dsimp only at hSw); go_simp; (try with_reducible rfl))
  try simp only [zP]
  refine wpAnyU_takeW (i := 4) (oi := ⟨some 74, _, _, _, _, _⟩) (v := ?_) (by kernel_rfl) rfl (by kernel_rfl) (by kernel_rfl) (by kernel_rfl) (fun _ _ _ h => h) (Or.inl ⟨by rfl, ?_⟩) (by assumption) ?_
  rotate_left
  ·(intro w hSw; (try dsimp only at hSw); go_simp; (try with_reducible rfl))
  try simp only [zP]
  refine wpAnyU_takeW (i := 5) (oi := ⟨some 75, _, _, _, _, _⟩) (v := ?_) (by kernel_rfl) rfl (by kernel_rfl) (by kernel_rfl) (by kernel_rfl) (fun _ _ _ h => h) (Or.inl ⟨by rfl, ?_⟩) (by assumption) ?_
  rotate_left
  ·(intro w hSw; (try dsimp only at hSw); go_simp; (try with_reducible rfl))
  try simp only [zP]
  refine wpAnyU_take (i := 6) (oi := ⟨some 76, _, _, _, _, _⟩) (v := ?_) [15, 16, 17, 18, 19] (by kernel_rfl) (by kernel_rfl) (by kernel_rfl) (by kernel_rfl) rfl (by kernel_rfl) (by kernel_rfl) (by kernel_rfl) (fun _ _ _ h => h) (Or.inl ⟨by rfl, ?_⟩) (by assumption) ?_
  rotate_left
  ·(intro w hSw; (try dsimp only at hSw); go_simp; (try with_reducible rfl))
  try simp only [zP]
  refine wpAnyU_takeW (i := 7) (oi := ⟨some 77, _, _, _, _, _⟩) (v := ?_) (by kernel_rfl) rfl (by kernel_rfl) (by kernel_rfl) (by kernel_rfl) (fun _ _ _ h => h) (Or.inl ⟨by rfl, ?_⟩) (by assumption) ?_
  rotate_left
  ·(intro w hSw; (try dsimp only at hSw); go_simp; (try with_reducible rfl))
  try simp only [zP]
  refine wpAnyU_take (i := 8) (oi := ⟨some 78, _, _, _, _, _⟩) (v := ?_) [15, 16, 17, 18, 19] (by kernel_rfl) (by kernel_rfl) (by kernel_rfl) (by kernel_rfl) rfl (by kernel_rfl) (by kernel_rfl) (by kernel_rfl) (fun _ _ _ h => h) (Or.inl ⟨by rfl, ?_⟩) (by assumption) ?_
  rotate_left
  ·(intro w hSw; (try dsimp only at hSw); go_simp; (try with_reducible rfl))
  try simp only [zP]
  refine wpAnyU_takeW (i := 9) (oi := ⟨some 79, _, _, _, _, _⟩) (v := ?_) (by kernel_rfl) rfl (by kernel_rfl) (by kernel_rfl) (by kernel_rfl) (fun _ _ _ h => h) (Or.inl ⟨by rfl, ?_⟩) (by assumption) ?_
  rotate_left
  ·(intro w hSw; (try dsimp only at hSw); go_simp; (try with_reducible rfl))
  try simp only [zP]
  refine wpAnyU_take (i := 10) (oi := ⟨some 80, _, _, _, _, _⟩) (v := ?_) [15, 16, 17, 18, 19] (by kernel_rfl) (by kernel_rfl) (by kernel_rfl) (by kernel_rfl) rfl (by kernel_rfl) (by kernel_rfl) (by kernel_rfl) (fun _ _ _ h => h) (Or.inl ⟨by rfl, ?_⟩) (by assumption) ?_
  rotate_left
  ·(intro w hSw; (try dsimp only at hSw); go_simp; (try with_reducible rfl))
  try simp only [zP]
  refine wpAnyU_takeW (i := 11) (oi := ⟨some 81, _, _, _, _, _⟩) (v := ?_) (by kernel_rfl) rfl (by kernel_rfl) (by kernel_rfl) (by kernel_rfl) (fun _ _ _ h => h) (Or.inl ⟨by rfl, ?_⟩) (by assumption) ?_
  rotate_left
  ·(intro w hSw; (try dsimp only at hSw); go_simp; (try with_reducible rfl))
  try simp only [zP]
  refine wpAnyU_take (i := 12) (oi := ⟨some 82, _, _, _, _, _⟩) (v := ?_) [15, 16, 17, 18, 19] (by kernel_rfl) (by kernel_rfl) (by kernel_rfl) (by kernel_rfl) rfl (by kernel_rfl) (by kernel_rfl) (by kernel_rfl) (fun _ _ _ h => h) (Or.inl ⟨by rfl, ?_⟩) (by assumption) ?_
  rotate_left
  ·(intro w hSw; (try dsimp only at hSw); go_simp; (try with_reducible rfl))
  try simp only [zP]
  refine wpAnyU_takeW (i := 13) (oi := ⟨some 83, _, _, _, _, _⟩) (v := ?_) (by kernel_rfl) rfl (by kernel_rfl) (by kernel_rfl) (by kernel_rfl) (fun _ _ _ h => h) (Or.inl ⟨by rfl, ?_⟩) (by assumption) ?_
  rotate_left
  ·(intro w hSw; (try dsimp only at hSw); go_simp; (try with_reducible rfl))
  try simp only [zP]
  refine wpAnyU_take (i := 14) (oi := ⟨some 84, _, _, _, _, _⟩) (v := ?_) [15, 16, 17, 18, 19] (by kernel_rfl) (by kernel_rfl) (by kernel_rfl) (by kernel_rfl) rfl (by kernel_rfl) (by kernel_rfl) (by kernel_rfl) (fun _ _ _ h => h) (Or.inl ⟨by rfl, ?_⟩) (by assumption) ?_
  rotate_left
  ·(intro w hSw; (try dsimp only at hSw); go_simp; (try with_reducible rfl))
  try simp only [zP]
  refine wpAnyU_takeW (i := 15) (oi := ⟨some 85, _, _, _, _, _⟩) (v := ?_) (by kernel_rfl) rfl (by kernel_rfl) (by kernel_rfl) (by kernel_rfl) (fun _ _ _ h => h) (Or.inl ⟨by rfl, ?_⟩) (by assumption) ?_
  rotate_left
  ·(intro w hSw; (try dsimp only at hSw); go_simp; (try with_reducible rfl))
  try simp only [zP]
  refine wpAnyU_ready (rs := [0, 16]) (by kernel_rfl) (by simp) ?_
  refine AllReadyU.cons (o := ⟨some 70, _, _, _, _, _⟩) rfl (fun K hK => ?_) (AllReadyU.cons (o := ⟨some 86, _, _, _, _, _⟩) rfl (fun K hK => ?_) AllReadyU.nil)
  ·have hoA := own_made55 (e := 109) (k := 7) hL; replace hL := hL.alloc (.cells #[] 109)
   go_simp
   skip
   try go_wp2_with fail
   refine hK.out _ _ ?_ (fun hHeld => ?_)
   ·(try dsimp only); exact HC12.out _ hL
   clear hK K
   try simp only [zP]
   refine wpAnyU_ready (rs := [3, 16]) (by kernel_rfl) (by simp) ?_
   refine AllReadyU.cons (o := ⟨some 73, _, _, _, _, _⟩) rfl (fun K hK => ?_) (AllReadyU.cons (o := ⟨some 86, _, _, _, _, _⟩) rfl (fun K hK => ?_) AllReadyU.nil)
   ·refine step_appG _ rfl (.tmp 70) (.tmp 72) 72 rfl w9 109 _ 7 64 Tryz.underlying72 info_cln_K (by simp [Value.cells]) (by decide) _ _ _ rfl hoA lA ln lc (ks.flatMap akdC) rfl (HLg.out.ext hL) (akdC_one _) hL (by omega) (by decide) ?_; intro A6 c6 w6 hoB hb6 hle6 hg6; rw [Nat.zero_add] at hoB hle6 ⊢; rw [List.nil_append] at hoB; replace hL := hb6; clear hb6 hg6
    refine hK.out _ _ ?_ (fun hHeld => ?_)
    ·(try dsimp only); exact HC12.out _ hL
    clear hK K
    try simp only [zP]
    refine wpAnyU_ready (rs := [16]) (by kernel_rfl) (by simp) ?_
    refine AllReadyU.cons (o := ⟨some 86, _, _, _, _, _⟩) rfl (fun K hK => ?_) AllReadyU.nil
    have hr5 := rd_lit55 hL #[.int .i64 t1, .int .i64 A.status, .int .i64 A.version, .int .i64 A.variant, .string A.addr, .int .i64 lo, .int .i64 hi] 109 7 rfl; replace hoB := hoB.alloc (.cells #[.int .i64 t1, .int .i64 A.status, .int .i64 A.version, .int .i64 A.variant, .string A.addr, .int .i64 lo, .int .i64 hi] 109); replace hL := hL.alloc (.cells #[.int .i64 t1, .int .i64 A.status, .int .i64 A.version, .int .i64 A.variant, .string A.addr, .int .i64 lo, .int .i64 hi] 109)
    go_simp
    skip
    try go_wp2_with fail
    refine hK.out _ _ ?_ (fun hHeld => ?_)
    ·(try dsimp only); exact HC12.out _ hL
    clear hK K
    try simp only [zP]
    refine wpAnyU_ready (rs := [17]) (by kernel_rfl) (by simp) ?_
    refine AllReadyU.cons (o := ⟨some 87, _, _, _, _, _⟩) rfl (fun K hK => ?_) AllReadyU.nil
    refine step_appG _ rfl (.tmp 73) (.tmp 86) 72 rfl w9 109 _ 7 64 Tryz.underlying72 info_cln_K (by simp [Value.cells]) (by decide) _ _ _ rfl hoB _ 1 1 (akdC kq) rfl (by rw [HKc.out]; exact hr5) (by have := akdC_one [kq]; simpa using this) hL (by omega) (by decide) ?_; intro A9 c9 wa hoC hb9 hle9 hg9; replace hL := hb9; clear hb9 hg9
    refine hK.out _ _ ?_ (fun hHeld => ?_)
    ·(try dsimp only); exact HC12.out _ hL
    clear hK K
    try simp only [zP]
    refine wpAnyU_takeW (i := 18) (oi := ⟨some 88, _, _, _, _, _⟩) (v := ?_) (by kernel_rfl) rfl (by kernel_rfl) (by kernel_rfl) (by kernel_rfl) (fun _ _ _ h => h) (Or.inl ⟨by rfl, ?_⟩) (by assumption) ?_
    rotate_left
    ·(intro w hSw; (try dsimp only at hSw); go_simp; (try with_reducible rfl))
    try simp only [zP]
    refine wpAnyU_ready (rs := [19]) (by kernel_rfl) (by simp) ?_
    refine AllReadyU.stop (o := ⟨none, _, _, _, _, _⟩) rfl (by kernel_rfl) (fun K hK => ?_) AllReadyU.nil
    have hcz := ((HX.out.ext HE9.out).ext hL).cell 2; have hfz := ((HX.out.ext HE9.out).ext hL).frozen 2
    go_simp
    skip
    try go_wp2_with fail
    refine hK.out _ _ ?_ (fun hHeld => ?_)
    ·(try dsimp only); (try trivial)
    clear hK K
    try simp only [zP]
    refine wpAnyH_done (by kernel_rfl) ?_ _
    clear hcz hfz
    have HoC := own_rs hoC hle9 (b2 := w3.heap.size) H39.out
    have hKL : Keeps (fun i => i < w3.heap.size) wa (wa.setCell ⟨w.heap.size, 2, none⟩ (.slice A9 (ln + 1) c9)) := (Keeps.refl _ wa).set_ (b := w.heap.size) Hl0.out 2 _
    refine hK0 _ _ (Met.intro (hJ0 _ _ ?_))
    (repeat apply Exists.intro)
    refine ⟨?_, rfl⟩
    exact ⟨rfl, _, _, HoC.keep hKL (fun i hi => .inl hi), ((HX.out.ext HE9.out).ext hL).set_ 2 _, ((HS6.out.ext HE9.out).ext hL).far (p := ⟨w.heap.size, 2, none⟩) (by simp) _, ((HR7.out.ext HE9.out).ext hL).far (p := ⟨w.heap.size, 2, none⟩) (by simp) _, (HBk.out.ext hL).far (p := ⟨w.heap.size, 2, none⟩) (by have := Hb9.out; have := Hw4.out; simp only; omega) _, ((HE4.out.trans HE9.out).trans hL).setCell (p := ⟨w.heap.size, 2, none⟩) (Nat.le_refl _) _, (Keeps.of hL).trans hKL⟩
   ·have hr5 := rd_lit55 hL #[.int .i64 t1, .int .i64 A.status, .int .i64 A.version, .int .i64 A.variant, .string A.addr, .int .i64 lo, .int .i64 hi] 109 7 rfl; rw [World.size_alloc] at hr5; replace hoA := hoA.alloc (.cells #[.int .i64 t1, .int .i64 A.status, .int .i64 A.version, .int .i64 A.variant, .string A.addr, .int .i64 lo, .int .i64 hi] 109); replace hL := hL.alloc (.cells #[.int .i64 t1, .int .i64 A.status, .int .i64 A.version, .int .i64 A.variant, .string A.addr, .int .i64 lo, .int .i64 hi] 109)
    go_simp
    skip
    try go_wp2_with fail
    refine hK.out _ _ ?_ (fun hHeld => ?_)
    ·(try dsimp only); exact HC12.out _ hL
    clear hK K
    try simp only [zP]
    refine wpAnyU_ready (rs := [3]) (by kernel_rfl) (by simp) ?_
    refine AllReadyU.cons (o := ⟨some 73, _, _, _, _, _⟩) rfl (fun K hK => ?_) AllReadyU.nil
    refine step_appG _ rfl (.tmp 70) (.tmp 72) 72 rfl w9 109 _ 7 64 Tryz.underlying72 info_cln_K (by simp [Value.cells]) (by decide) _ _ _ rfl hoA lA ln lc (ks.flatMap akdC) rfl (HLg.out.ext hL) (akdC_one _) hL (by omega) (by decide) ?_; intro A6 c6 w6 hoB hb6 hle6 hg6; rw [Nat.zero_add] at hoB hle6 ⊢; rw [List.nil_append] at hoB; replace hr5 := Rd.growB hr5 hg6 (fun a ha => by cases ha; simp [World.size_alloc]); replace hL := hb6; clear hb6 hg6
    refine hK.out _ _ ?_ (fun hHeld => ?_)
    ·(try dsimp only); exact HC12.out _ hL
    clear hK K
    try simp only [zP]
    refine wpAnyU_ready (rs := [17]) (by kernel_rfl) (by simp) ?_
    refine AllReadyU.cons (o := ⟨some 87, _, _, _, _, _⟩) rfl (fun K hK => ?_) AllReadyU.nil
    refine step_appG _ rfl (.tmp 73) (.tmp 86) 72 rfl w9 109 _ 7 64 Tryz.underlying72 info_cln_K (by simp [Value.cells]) (by decide) _ _ _ rfl hoB _ 1 1 (akdC kq) rfl (by rw [HKc.out]; exact hr5) (by have := akdC_one [kq]; simpa using this) hL (by omega) (by decide) ?_; intro A9 c9 wa hoC hb9 hle9 hg9; replace hL := hb9; clear hb9 hg9
    refine hK.out _ _ ?_ (fun hHeld => ?_)
    ·(try dsimp only); exact HC12.out _ hL
    clear hK K
    try simp only [zP]
    refine wpAnyU_takeW (i := 18) (oi := ⟨some 88, _, _, _, _, _⟩) (v := ?_) (by kernel_rfl) rfl (by kernel_rfl) (by kernel_rfl) (by kernel_rfl) (fun _ _ _ h => h) (Or.inl ⟨by rfl, ?_⟩) (by assumption) ?_
    rotate_left
    ·(intro w hSw; (try dsimp only at hSw); go_simp; (try with_reducible rfl))
    try simp only [zP]
    refine wpAnyU_ready (rs := [19]) (by kernel_rfl) (by simp) ?_
    refine AllReadyU.stop (o := ⟨none, _, _, _, _, _⟩) rfl (by kernel_rfl) (fun K hK => ?_) AllReadyU.nil
    have hcz := ((HX.out.ext HE9.out).ext hL).cell 2; have hfz := ((HX.out.ext HE9.out).ext hL).frozen 2
    go_simp
    skip
    try go_wp2_with fail
    refine hK.out _ _ ?_ (fun hHeld => ?_)
    ·(try dsimp only); (try trivial)
    clear hK K
    try simp only [zP]
    refine wpAnyH_done (by kernel_rfl) ?_ _
    clear hcz hfz
    have HoC := own_rs hoC hle9 (b2 := w3.heap.size) H39.out
    have hKL : Keeps (fun i => i < w3.heap.size) wa (wa.setCell ⟨w.heap.size, 2, none⟩ (.slice A9 (ln + 1) c9)) := (Keeps.refl _ wa).set_ (b := w.heap.size) Hl0.out 2 _
    refine hK0 _ _ (Met.intro (hJ0 _ _ ?_))
    (repeat apply Exists.intro)
    refine ⟨?_, rfl⟩
    exact ⟨rfl, _, _, HoC.keep hKL (fun i hi => .inl hi), ((HX.out.ext HE9.out).ext hL).set_ 2 _, ((HS6.out.ext HE9.out).ext hL).far (p := ⟨w.heap.size, 2, none⟩) (by simp) _, ((HR7.out.ext HE9.out).ext hL).far (p := ⟨w.heap.size, 2, none⟩) (by simp) _, (HBk.out.ext hL).far (p := ⟨w.heap.size, 2, none⟩) (by have := Hb9.out; have := Hw4.out; simp only; omega) _, ((HE4.out.trans HE9.out).trans hL).setCell (p := ⟨w.heap.size, 2, none⟩) (Nat.le_refl _) _, (Keeps.of hL).trans hKL⟩
  ·have hr5 := rd_lit55 hL #[.int .i64 t1, .int .i64 A.status, .int .i64 A.version, .int .i64 A.variant, .string A.addr, .int .i64 lo, .int .i64 hi] 109 7 rfl; replace hL := hL.alloc (.cells #[.int .i64 t1, .int .i64 A.status, .int .i64 A.version, .int .i64 A.variant, .string A.addr, .int .i64 lo, .int .i64 hi] 109)
   go_simp
   skip
   try go_wp2_with fail
   refine hK.out _ _ ?_ (fun hHeld => ?_)
   ·(try dsimp only); exact HC12.out _ hL
   clear hK K
   try simp only [zP]
   refine wpAnyU_ready (rs := [0]) (by kernel_rfl) (by simp) ?_
   refine AllReadyU.cons (o := ⟨some 70, _, _, _, _, _⟩) rfl (fun K hK => ?_) AllReadyU.nil
   have hoA := own_made55 (e := 109) (k := 7) hL; rw [World.size_alloc] at hoA; replace hr5 := hr5.ext ((Ext.refl _).alloc (.cells #[] 109)); replace hL := hL.alloc (.cells #[] 109)
   go_simp
   skip
   try go_wp2_with fail
   refine hK.out _ _ ?_ (fun hHeld => ?_)
   ·(try dsimp only); exact HC12.out _ hL
   clear hK K
   try simp only [zP]
   refine wpAnyU_ready (rs := [3]) (by kernel_rfl) (by simp) ?_
   refine AllReadyU.cons (o := ⟨some 73, _, _, _, _, _⟩) rfl (fun K hK => ?_) AllReadyU.nil
   refine step_appG _ rfl (.tmp 70) (.tmp 72) 72 rfl w9 109 _ 7 64 Tryz.underlying72 info_cln_K (by simp [Value.cells]) (by decide) _ _ _ rfl hoA lA ln lc (ks.flatMap akdC) rfl (HLg.out.ext hL) (akdC_one _) hL (by omega) (by decide) ?_; intro A6 c6 w6 hoB hb6 hle6 hg6; rw [Nat.zero_add] at hoB hle6 ⊢; rw [List.nil_append] at hoB; replace hr5 := Rd.growB hr5 hg6 (fun a ha => by cases ha; simp [World.size_alloc]); replace hL := hb6; clear hb6 hg6
   refine hK.out _ _ ?_ (fun hHeld => ?_)
   ·(try dsimp only); exact HC12.out _ hL
   clear hK K
   try simp only [zP]
   refine wpAnyU_ready (rs := [17]) (by kernel_rfl) (by simp) ?_
   refine AllReadyU.cons (o := ⟨some 87, _, _, _, _, _⟩) rfl (fun K hK => ?_) AllReadyU.nil
   refine step_appG _ rfl (.tmp 73) (.tmp 86) 72 rfl w9 109 _ 7 64 Tryz.underlying72 info_cln_K (by simp [Value.cells]) (by decide) _ _ _ rfl hoB _ 1 1 (akdC kq) rfl (by rw [HKc.out]; exact hr5) (by have := akdC_one [kq]; simpa using this) hL (by omega) (by decide) ?_; intro A9 c9 wa hoC hb9 hle9 hg9; replace hL := hb9; clear hb9 hg9
   refine hK.out _ _ ?_ (fun hHeld => ?_)
   ·(try dsimp only); exact HC12.out _ hL
   clear hK K
   try simp only [zP]
   refine wpAnyU_takeW (i := 18) (oi := ⟨some 88, _, _, _, _, _⟩) (v := ?_) (by kernel_rfl) rfl (by kernel_rfl) (by kernel_rfl) (by kernel_rfl) (fun _ _ _ h => h) (Or.inl ⟨by rfl, ?_⟩) (by assumption) ?_
   rotate_left
   ·(intro w hSw; (try dsimp only at hSw); go_simp; (try with_reducible rfl))
   try simp only [zP]
   refine wpAnyU_ready (rs := [19]) (by kernel_rfl) (by simp) ?_
   refine AllReadyU.stop (o := ⟨none, _, _, _, _, _⟩) rfl (by kernel_rfl) (fun K hK => ?_) AllReadyU.nil
   have hcz := ((HX.out.ext HE9.out).ext hL).cell 2; have hfz := ((HX.out.ext HE9.out).ext hL).frozen 2
   go_simp
   skip
   try go_wp2_with fail
   refine hK.out _ _ ?_ (fun hHeld => ?_)
   ·(try dsimp only); (try trivial)
   clear hK K
   try simp only [zP]
   refine wpAnyH_done (by kernel_rfl) ?_ _
   clear hcz hfz
   have HoC := own_rs hoC hle9 (b2 := w3.heap.size) H39.out
   have hKL : Keeps (fun i => i < w3.heap.size) wa (wa.setCell ⟨w.heap.size, 2, none⟩ (.slice A9 (ln + 1) c9)) := (Keeps.refl _ wa).set_ (b := w.heap.size) Hl0.out 2 _
   refine hK0 _ _ (Met.intro (hJ0 _ _ ?_))
   (repeat apply Exists.intro)
   refine ⟨?_, rfl⟩
   exact ⟨rfl, _, _, HoC.keep hKL (fun i hi => .inl hi), ((HX.out.ext HE9.out).ext hL).set_ 2 _, ((HS6.out.ext HE9.out).ext hL).far (p := ⟨w.heap.size, 2, none⟩) (by simp) _, ((HR7.out.ext HE9.out).ext hL).far (p := ⟨w.heap.size, 2, none⟩) (by simp) _, (HBk.out.ext hL).far (p := ⟨w.heap.size, 2, none⟩) (by have := Hb9.out; have := Hw4.out; simp only; omega) _, ((HE4.out.trans HE9.out).trans hL).setCell (p := ⟨w.heap.size, 2, none⟩) (Nat.le_refl _) _, (Keeps.of hL).trans hKL⟩
 case rest =>
 obtain ⟨rfl, A9, c9, hoC, hXL, hSL, hRL, hBL, hEL, hKL⟩ := hcut
 generalize wc = wl at *
 have HXL := zi hXL; have HSL := zi hSL; have HRL := zi hRL; have HBL := zi hBL; have HEL := zi hEL; have HoC := zi hoC
 have HFL := zi (HF9.out.keep hKL (fun i hi => .inl hi)); have HDL := zi (HD9.out.keep hKL (fun i hi => .inl hi))
 clear hoC hXL hSL hRL hBL hEL hKL HC12 HF9 HD9 HLg HKc HBk HX HS6 HR7
 go_upto_region 13 with fail
 have HX3 := zi HXL.out.drew; have HB3 := zi HBL.out.drew; have HS3 := zi HSL.out.drew; have HR3 := zi HRL.out.drew; have HE3x := zi HEL.out.drew; have HK3 := zi (Keeps.of (S := (fun i => i < w3.heap.size)) (Ext.refl wl).drew)
 clear HXL HBL HSL HRL HEL
 refine wp_region_held_drew (S := (fun w' => w'.cell? ⟨w.heap.size, 0, none⟩ = some (.slice iA im ic) ∧ w'.cell? ⟨w.heap.size, 1, none⟩ = some (.slice bA bn bc) ∧ w'.cell? ⟨w.heap.size, 2, none⟩ = some (.slice A9 (ln + 1) c9) ∧ w'.cell? ⟨b9, 0, none⟩ = some (.int .i64 A.status))) (by kernel_rfl) ?_ (fun hHeld => ?_)
 ·(try dsimp only); exact ⟨HX3.out.cell 0, HX3.out.cell 1, HX3.out.cell 2, HB3.out.cell 0⟩
 refine zH (v := ?_) 0 (some 89) rfl ?_ ?_; rotate_left
 ·(intro w hSw; (try dsimp only at hSw); go_simp; (try with_reducible rfl))
 try simp only [zP]
 refine zH (v := ?_) 1 (some 90) rfl ?_ ?_; rotate_left
 ·(intro w hSw; (try dsimp only at hSw); go_simp; (try with_reducible rfl))
 try simp only [zP]
 refine zH (v := ?_) 2 (some 91) rfl ?_ ?_; rotate_left
 ·(intro w hSw; (try dsimp only at hSw); go_simp; (try with_reducible rfl))
 try simp only [zP]
 refine zH (v := ?_) 3 (some 92) rfl ?_ ?_; rotate_left
 ·(intro w hSw; (try dsimp only at hSw); go_simp; (try with_reducible rfl))
 try simp only [zP]
 refine zH (v := ?_) 4 (some 93) rfl ?_ ?_; rotate_left
 ·(intro w hSw; (try dsimp only at hSw); go_simp; (try with_reducible rfl))
 try simp only [zP]
 refine zH (v := ?_) 5 (some 94) rfl ?_ ?_; rotate_left
 ·(intro w hSw; (try dsimp only at hSw); go_simp; (try with_reducible rfl))
 try simp only [zP]
 refine wpAnyH_ready (rs := [6]) (by kernel_rfl) (by simp) ?_
 refine AllReadyH.cons (o := ⟨none, _, _, _, _, _⟩) rfl (fun K hK => ?_) AllReadyH.nil
 refine step_store55 rfl 74 (.tmp 6) (.tmp 89) rfl rfl (w.heap.size + 2) _ rfl rfl 74 _ HS3.out infoStM rfl (by simp [Value.oneCell']) ?_; intro w10 hN10 hX10; replace HX3 := zi (HX3.out.grown hX10 (by simp)); replace HB3 := zi (HB3.out.grown hX10 (by have := Hb9.out; have := Hw4.out; simp; omega)); replace HR3 := zi (HR3.out.grown hX10 (by simp)); replace HS3 := zi hN10; replace HE3x := zi (HE3x.out.growB hX10 (by omega)); replace HK3 := zi (Keeps.grown HK3.out hX10 (fun b hb => .inl (by injection hb with hb; subst hb; exact Hl2.out))); clear hN10 hX10
 refine hK.out _ _ ?_ (fun hHeld => ?_)
 ·(try dsimp only); exact ⟨HX3.out.cell 0, HX3.out.cell 1, HX3.out.cell 2, HB3.out.cell 0⟩
 clear hK K
 try simp only [zP]
 refine wpAnyH_ready (rs := [7]) (by kernel_rfl) (by simp) ?_
 refine AllReadyH.cons (o := ⟨none, _, _, _, _, _⟩) rfl (fun K hK => ?_) AllReadyH.nil
 refine step_store55 rfl 38 (.tmp 7) (.tmp 93) rfl rfl (w.heap.size + 3) _ rfl rfl 38 _ HR3.out infoRsp rfl (by simp [Value.oneCell']) ?_; intro w11 hN11 hX11; replace HX3 := zi (HX3.out.grown hX11 (by simp)); replace HB3 := zi (HB3.out.grown hX11 (by have := Hb9.out; have := Hw4.out; simp; omega)); replace HS3 := zi (HS3.out.grown hX11 (by simp)); replace HR3 := zi hN11; replace HE3x := zi (HE3x.out.growB hX11 (by omega)); replace HK3 := zi (Keeps.grown HK3.out hX11 (fun b hb => .inl (by injection hb with hb; subst hb; exact Hl3.out))); clear hN11 hX11
 refine hK.out _ _ ?_ (fun hHeld => ?_)
 ·(try dsimp only); exact ⟨HX3.out.cell 0, HX3.out.cell 1, HX3.out.cell 2, HB3.out.cell 0⟩
 clear hK K
 try simp only [zP]
 refine zH (v := ?_) 8 (some 8) rfl ?_ ?_; rotate_left
 ·(intro w hSw; (try dsimp only at hSw); go_simp; (try with_reducible rfl))
 try simp only [zP]
 refine wpAnyH_done (by kernel_rfl) ?_ _
 have y0 := HS3.out.cell 0; have y1 := HS3.out.cell 1; have y2 := HS3.out.cell 2; have y3 := HR3.out.cell 0; have y4 := HR3.out.cell 1
 simp only [List.getElem?_toArray, List.getElem?_cons_succ, List.getElem?_cons_zero] at y0 y1 y2 y3 y4
 go_wp2_with fail
 refine bodyPost_ret (v := .tuple #[.agg #[.slice iA im ic, .slice bA bn bc, .slice A9 (ln + 1) c9], .agg #[.int .i64 A.status, .slice fA1 fn1 fc1], .slice eA en ec]) (by simp [results, Tryz.results64, go_sem, y0, y1, y2, y3, y4]) rfl ?_
 have hlo : ∀ i, i < w.heap.size → i < w3.heap.size := fun i hi => by have := Hl2.out; omega
 refine ⟨⟨⟨iA, im, ic⟩, ⟨bA, bn, bc⟩, ⟨A9, ln + 1, c9⟩, mv, ks ++ [kq]⟩, ⟨fA1, fn1, fc1⟩, ⟨eA, en, ec⟩, rfl, rfl, ⟨(HSM.out.its.sub (fun i hi => hi.1)).ext HE3x.out, HSM.out.ver, fun x hx => ((HSM.out.mem x hx).more (fun i hi => .inl hi.1)).ext HE3x.out, ?_, ?_⟩, (HFL.out.keep HK3.out (fun i hi => .inl hi)).sub hlo, (HDL.out.keep HK3.out (fun i hi => .inl hi)).sub hlo, HE3x.out⟩
 ·rw [List.flatMap_append, show [kq].flatMap akdC = akdC kq by simp]
  exact (HoC.out.keep HK3.out (fun i hi => .inl hi)).sub (fun i hi => hlo i hi.2)
 ·have h8 := HSM.out.len
  simp only [List.length_append, List.length_cons, List.length_nil] at h8 ⊢
  omega
end Go.Proofs.YtmckbcbdnckngaaGreatDoor
