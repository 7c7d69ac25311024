/- Walks of functions that the proof needs, and plain laws on what they compute. No condition beyond those that each one states. -/
import Derived.Test.YtmckbcbdnckngaaGreatDoorJ6
import Derived.ProofKit
import Derived.SizedLaws
import Derived.Deep.Slices
import Derived.Deep.Fields
import Derived.ChangeSame
import Derived.ShutString
import Derived.OpenShut
import Derived.Test.YtmckbcbdnckngaaGreatDoorRows
import Derived.SliceStrings
import Derived.Lay
import Derived.LaidOnce
import Derived.LaidMore
import Derived.Deep.DeepHandedRow
import Derived.Lib.SmallJoins
set_option maxHeartbeats 32000000
set_option maxRecDepth 100000
set_option linter.unusedSimpArgs false
set_option linter.unusedVariables false
namespace Go.Proofs.YtmckbcbdnckngaaGreatDoor
open Go.RowKit

theorem infoVt4 : (Tryz.prog.info? 58).map (·.size) = some 4 := by kernel_rfl
theorem law_SameE (Q1 Q2 : Nat → Prop) (m1 m2 : MV) (w : World) (h1 : m1.At Q1 w) (h2 : m2.At Q2 w) (he : m1.ver = m2.ver) (hf : m1.f.length ≤ 1000000000) (hv : m1.vars.length ≤ 1000000000) (hnm : ∀ x ∈ m1.vars, x.1.names.length ≤ 1000000000) :
  Calls Tryz.prog 39 #[.agg m1.cells.toArray, .agg m2.cells.toArray] w fun e w' => e = .returned (.bool true) ∧ Ext w w' := by
 have HM1 := zi h1; have HM2 := zi h2; have Hnm := zi hnm
 clear h1 h2 hnm
 obtain ⟨addr, status, f, body, vars1, ⟨f1A, f1n, f1c⟩, ⟨b1A, b1n, b1c⟩, ⟨v1A, v1n, v1c⟩⟩ := m1
 obtain ⟨addr2, status2, f2, body2, vars2, ⟨f2A, f2n, f2c⟩, ⟨b2A, b2n, b2c⟩, ⟨v2A, v2n, v2c⟩⟩ := m2
 simp only [MV.ver, Ver.mk.injEq] at he
 obtain ⟨rfl, rfl, rfl, rfl, hvv⟩ := he
 have hl : vars1.length = vars2.length := by have h9 := congrArg List.length hvv; rwa [List.length_map, List.length_map] at h9
 have h11 : vars1.length = v1n := HM1.out.vlen
 have h12 : vars2.length = v2n := HM2.out.vlen
 obtain rfl : v1n = v2n := by omega
 have h13 : f.length = f1n := HM1.out.fs.rd.lenF
 have h14 : f.length = f2n := HM2.out.fs.rd.lenF
 obtain rfl : f1n = f2n := by omega
 have Hl1 := zi h11; have Hl2 := zi h12; have Hvv := zi hvv
 have hv1 : v1n ≤ 1000000000 := by simp only at hv; omega
 have hf1 : f1n ≤ 1000000000 := by simp only at hf; omega
 clear hl h11 h12 h13 h14 hvv hv hf
 simp only [MV.cells, Sl.v]
 have HB1 := zi ((Blk.new w 36 #[.string addr, .int .i64 status, .slice f1A f1n f1c, .slice b1A b1n b1c, .slice v1A v1n v1c]).alloc (.cells #[.string addr, .int .i64 status, .slice f2A f1n f2c, .slice b2A b2n b2c, .slice v2A v1n v2c] 36))
 have hB2 := Blk.new (w.alloc (.cells #[.string addr, .int .i64 status, .slice f1A f1n f1c, .slice b1A b1n b1c, .slice v1A v1n v1c] 36)) 36 #[.string addr, .int .i64 status, .slice f2A f1n f2c, .slice b2A b2n b2c, .slice v2A v1n v2c]
 rw [show (w.alloc (.cells #[.string addr, .int .i64 status, .slice f1A f1n f1c, .slice b1A b1n b1c, .slice v1A v1n v1c] 36)).heap.size = w.heap.size + 1 by simp] at hB2
 have HB2 := zi hB2
 have HW := zi (((Ext.refl w).alloc (.cells #[.string addr, .int .i64 status, .slice f1A f1n f1c, .slice b1A b1n b1c, .slice v1A v1n v1c] 36)).alloc (.cells #[.string addr, .int .i64 status, .slice f2A f1n f2c, .slice b2A b2n b2c, .slice v2A v1n v2c] 36))
 clear hB2
 have HS := zi (fun w' (hx : Ext ((w.alloc (.cells #[.string addr, .int .i64 status, .slice f1A f1n f1c, .slice b1A b1n b1c, .slice v1A v1n v1c] 36)).alloc (.cells #[.string addr, .int .i64 status, .slice f2A f1n f2c, .slice b2A b2n b2c, .slice v2A v1n v2c] 36)) w') => (⟨(HB1.out.ext hx).cell 0, (HB1.out.ext hx).cell 1, (HB1.out.ext hx).cell 2, (HB1.out.ext hx).cell 3, (HB1.out.ext hx).cell 4, (HB2.out.ext hx).cell 0, (HB2.out.ext hx).cell 1, (HB2.out.ext hx).cell 2, (HB2.out.ext hx).cell 3, (HB2.out.ext hx).cell 4⟩ : w'.cell? ⟨w.heap.size, 0, none⟩ = some (.string addr) ∧ w'.cell? ⟨w.heap.size, 1, none⟩ = some (.int .i64 status) ∧ w'.cell? ⟨w.heap.size, 2, none⟩ = some (.slice f1A f1n f1c) ∧ w'.cell? ⟨w.heap.size, 3, none⟩ = some (.slice b1A b1n b1c) ∧ w'.cell? ⟨w.heap.size, 4, none⟩ = some (.slice v1A v1n v1c) ∧ w'.cell? ⟨w.heap.size + 1, 0, none⟩ = some (.string addr) ∧ w'.cell? ⟨w.heap.size + 1, 1, none⟩ = some (.int .i64 status) ∧ w'.cell? ⟨w.heap.size + 1, 2, none⟩ = some (.slice f2A f1n f2c) ∧ w'.cell? ⟨w.heap.size + 1, 3, none⟩ = some (.slice b2A b2n b2c) ∧ w'.cell? ⟨w.heap.size + 1, 4, none⟩ = some (.slice v2A v1n v2c)))
 go_enter Tryz.func39, Tryz.ntmps39
 go_upto_region 1 with fail
 (try rw [show (w.alloc (.cells #[.string addr, .int .i64 status, .slice f1A f1n f1c, .slice b1A b1n b1c, .slice v1A v1n v1c] 36)).heap.size = w.heap.size + 1 by simp])
 generalize ((w.alloc (.cells #[.string addr, .int .i64 status, .slice f1A f1n f1c, .slice b1A b1n b1c, .slice v1A v1n v1c] 36)).alloc (.cells #[.string addr, .int .i64 status, .slice f2A f1n f2c, .slice b2A b2n b2c, .slice v2A v1n v2c] 36)) = Wb at *
 obtain ⟨x0, x1, x2, x3, x4, y0, y1, y2, y3, y4⟩ := HS.out _ (Ext.refl _)
 have hc1 := conv_BE (c := b1c) (HM1.out.bd.rd.ext HW.out)
 have hc2 := conv_BE (c := b2c) (HM2.out.bd.rd.ext HW.out)
 (try simp only at hc1 hc2)
 have qs : (status != status) = false := by simp
 have qa : (addr.toList != addr.toList) = false := by simp
 have qb : (body.toList != body.toList) = false := by simp
 go_wp2_with fail
 refine (law_FieldsE f1A f2A f1n f1c f2c f Wb (HM1.out.fs.rd.ext HW.out) (HM2.out.fs.rd.ext HW.out) hf1).mono ?_; rintro e w1 ⟨rfl, hb1⟩
 clear x0 x1 x2 x3 x4 y0 y1 y2 y3 y4 hc1 hc2
 obtain ⟨x0, x1, x2, x3, x4, y0, y1, y2, y3, y4⟩ := HS.out _ hb1
 go_wp2_with fail
 clear x0 x1 x2 x3 x4 y0 y1 y2 y3 y4 qs qa qb
 go_loopw [5, 49] (fun _ i wr => ∃ k : Nat, k ≤ v1n ∧ i = .int .i64 (k : Nat) ∧ Ext Wb wr) (fun _ i _ => v1n - (intOf i).toNat)
 case atStart => exact ⟨0, Nat.zero_le _, rfl, hb1⟩
 case round =>
  obtain ⟨k, hk, rfl, hbr⟩ := hrel
  by_cases hlt : k < v1n
  ·have hk1 : k < vars1.length := by have := Hl1.out; omega
   have hk2 : k < vars2.length := by have := Hl2.out; omega
   have hX := HW.out.trans hbr
   have hve : vars1[k].1 = vars2[k].1 := by
    have h9 : (vars1.map (·.1))[k]? = (vars2.map (·.1))[k]? := congrArg (·[k]?) Hvv.out
    rw [List.getElem?_map, List.getElem?_map, List.getElem?_eq_getElem hk1, List.getElem?_eq_getElem hk2] at h9
    exact Option.some.inj h9
   obtain ⟨g1, o1, e1, c0, c1, c2, c3⟩ := (HM1.out.ext hX).var hk1
   obtain ⟨g2, o2, e2, d0, d1, d2, d3⟩ := (HM2.out.ext hX).var hk2
   have HV1 := zi ((HM1.out.ext hX).each _ (List.getElem_mem hk1)); have HV2 := zi ((HM2.out.ext hX).each _ (List.getElem_mem hk2))
   have hnk := Hnm.out _ (List.getElem_mem hk1)
   simp only at e1 e2 c0 c1 c2 c3 d0 d1 d2 d3 HV1 HV2 hnk
   subst e1; subst e2
   generalize vars1[k] = p1 at *
   generalize vars2[k] = p2 at *
   obtain ⟨⟨names, key, tag, xb⟩, ⟨⟨n1A, n1n, n1c⟩, ⟨d1A, d1n, d1c⟩⟩⟩ := p1
   obtain ⟨z, ⟨⟨n2A, n2n, n2c⟩, ⟨d2A, d2n, d2c⟩⟩⟩ := p2
   simp only [Sl.v] at hve c0 c1 c2 c3 d0 d1 d2 d3 HV1 HV2 hnk
   subst hve
   simp only at d1 d2 HV2
   have h15 : names.length = n1n := HV1.out.nm.rd.lenS
   have h16 : names.length = n2n := HV2.out.nm.rd.lenS
   clear hk1 hk2
   obtain ⟨-, -, -, -, x4, -, -, -, -, y4⟩ := HS.out _ hbr
   have HC6 := zi (⟨x4, y4, c0, c1, c2, c3, d0, d1, d2, d3⟩ : wr.cell? ⟨w.heap.size, 4, none⟩ = some (.slice (some ⟨g1, o1, none⟩) v1n v1c) ∧ wr.cell? ⟨w.heap.size + 1, 4, none⟩ = some (.slice (some ⟨g2, o2, none⟩) v1n v2c) ∧ wr.cell? ⟨g1, o1 + k * 4, none⟩ = some (.slice n1A n1n n1c) ∧ wr.cell? ⟨g1, o1 + k * 4 + 1, none⟩ = some (.string key) ∧ wr.cell? ⟨g1, o1 + k * 4 + 2, none⟩ = some (.string tag) ∧ wr.cell? ⟨g1, o1 + k * 4 + 3, none⟩ = some (.slice d1A d1n d1c) ∧ wr.cell? ⟨g2, o2 + k * 4, none⟩ = some (.slice n2A n2n n2c) ∧ wr.cell? ⟨g2, o2 + k * 4 + 1, none⟩ = some (.string key) ∧ wr.cell? ⟨g2, o2 + k * 4 + 2, none⟩ = some (.string tag) ∧ wr.cell? ⟨g2, o2 + k * 4 + 3, none⟩ = some (.slice d2A d2n d2c))
   have HC6 := zi (fun w' (hx : Ext wr w') => (⟨hx.cell HC6.out.1, hx.cell HC6.out.2.1, hx.cell HC6.out.2.2.1, hx.cell HC6.out.2.2.2.1, hx.cell HC6.out.2.2.2.2.1, hx.cell HC6.out.2.2.2.2.2.1, hx.cell HC6.out.2.2.2.2.2.2.1, hx.cell HC6.out.2.2.2.2.2.2.2.1, hx.cell HC6.out.2.2.2.2.2.2.2.2.1, hx.cell HC6.out.2.2.2.2.2.2.2.2.2⟩ : w'.cell? ⟨w.heap.size, 4, none⟩ = some (.slice (some ⟨g1, o1, none⟩) v1n v1c) ∧ w'.cell? ⟨w.heap.size + 1, 4, none⟩ = some (.slice (some ⟨g2, o2, none⟩) v1n v2c) ∧ w'.cell? ⟨g1, o1 + k * 4, none⟩ = some (.slice n1A n1n n1c) ∧ w'.cell? ⟨g1, o1 + k * 4 + 1, none⟩ = some (.string key) ∧ w'.cell? ⟨g1, o1 + k * 4 + 2, none⟩ = some (.string tag) ∧ w'.cell? ⟨g1, o1 + k * 4 + 3, none⟩ = some (.slice d1A d1n d1c) ∧ w'.cell? ⟨g2, o2 + k * 4, none⟩ = some (.slice n2A n2n n2c) ∧ w'.cell? ⟨g2, o2 + k * 4 + 1, none⟩ = some (.string key) ∧ w'.cell? ⟨g2, o2 + k * 4 + 2, none⟩ = some (.string tag) ∧ w'.cell? ⟨g2, o2 + k * 4 + 3, none⟩ = some (.slice d2A d2n d2c)))
   clear x4 y4 c0 c1 c2 c3 d0 d1 d2 d3
   have hkn : (k : Int) < v1n := by omega
   have hwk : IntKind.i64.wrap (k : Int) = (k : Int) := IntWalk.i64_in _ (by omega)
   have hw1 : IntKind.i64.wrap ((k : Int) + 1) = (k : Int) + 1 := IntWalk.i64_in _ (by omega)
   go_upto_region 6 with fail
   go_cut [6, 7] (fun x6 x7 wx => ∃ b6 b7, x6 = .pointer (some ⟨b6, 0, none⟩) ∧ x7 = .pointer (some ⟨b7, 0, none⟩) ∧ Blk wx b6 58 #[.slice n1A n1n n1c, .string key, .string tag, .slice d1A d1n d1c] ∧ Blk wx b7 58 #[.slice n2A n2n n2c, .string key, .string tag, .slice d2A d2n d2c] ∧ Ext wr wx)
   case first =>
    rename_i J9 K9 hJ9 hK9
    have hE := (Ext.refl wr).drew
    refine wp_region_held_drew (S := (fun w' => w'.cell? ⟨w.heap.size, 4, none⟩ = some (.slice (some ⟨g1, o1, none⟩) v1n v1c) ∧ w'.cell? ⟨w.heap.size + 1, 4, none⟩ = some (.slice (some ⟨g2, o2, none⟩) v1n v2c) ∧ w'.cell? ⟨g1, o1 + k * 4, none⟩ = some (.slice n1A n1n n1c) ∧ w'.cell? ⟨g1, o1 + k * 4 + 1, none⟩ = some (.string key) ∧ w'.cell? ⟨g1, o1 + k * 4 + 2, none⟩ = some (.string tag) ∧ w'.cell? ⟨g1, o1 + k * 4 + 3, none⟩ = some (.slice d1A d1n d1c) ∧ w'.cell? ⟨g2, o2 + k * 4, none⟩ = some (.slice n2A n2n n2c) ∧ w'.cell? ⟨g2, o2 + k * 4 + 1, none⟩ = some (.string key) ∧ w'.cell? ⟨g2, o2 + k * 4 + 2, none⟩ = some (.string tag) ∧ w'.cell? ⟨g2, o2 + k * 4 + 3, none⟩ = some (.slice d2A d2n d2c))) (by kernel_rfl) ?_ (fun hHeld => ?_)
    ·(try dsimp only); exact HC6.out _ hE
    refine zH (v := ?_) 0 (some 52) rfl ?_ ?_; rotate_left
    ·(intro w hSw; (try dsimp only at hSw); go_simp; (try with_reducible rfl))
    try simp only [zP]
    refine zH (v := ?_) 1 (some 53) rfl ?_ ?_; rotate_left
    ·(intro w hSw; (try dsimp only at hSw); go_simp; (try with_reducible rfl))
    try simp only [zP]
    refine zH (v := ?_) 2 (some 54) rfl ?_ ?_; rotate_left
    ·(intro w hSw; (try dsimp only at hSw); go_simp; (try with_reducible rfl))
    try simp only [zP]
    refine zH (v := ?_) 3 (some 55) rfl ?_ ?_; rotate_left
    ·(intro w hSw; (try dsimp only at hSw); go_simp; (try with_reducible rfl))
    try simp only [zP]
    refine zH (v := ?_) 4 (some 56) rfl ?_ ?_; rotate_left
    ·(intro w hSw; (try dsimp only at hSw); go_simp; (try with_reducible rfl))
    try simp only [zP]
    refine zH (v := ?_) 5 (some 57) rfl ?_ ?_; rotate_left
    ·(intro w hSw; (try dsimp only at hSw); go_simp; (try with_reducible rfl))
    try simp only [zP]
    refine zH (v := ?_) 6 (some 58) rfl ?_ ?_; rotate_left
    ·(intro w hSw; (try dsimp only at hSw); go_simp; (try with_reducible rfl))
    try simp only [zP]
    refine zH (v := ?_) 7 (some 59) rfl ?_ ?_; rotate_left
    ·(intro w hSw; (try dsimp only at hSw); go_simp; (try with_reducible rfl))
    try simp only [zP]
    refine zH (v := ?_) 8 (some 60) rfl ?_ ?_; rotate_left
    ·(intro w hSw; (try dsimp only at hSw); go_simp; (try with_reducible rfl))
    try simp only [zP]
    refine zH (v := ?_) 9 (some 61) rfl ?_ ?_; rotate_left
    ·(intro w hSw; (try dsimp only at hSw); go_simp; (try with_reducible rfl))
    try simp only [zP]
    refine wpAnyH_ready (rs := [10, 11]) (by kernel_rfl) (by simp) ?_
    refine AllReadyH.cons (o := ⟨some 6, _, _, _, _, _⟩) rfl (fun K hK => ?_) (AllReadyH.cons (o := ⟨some 7, _, _, _, _, _⟩) rfl (fun K hK => ?_) AllReadyH.nil)
    ·go_simp
     have hb6 := Blk.new wr.drew 58 #[.slice none 0 0, .string ⟨#[]⟩, .string ⟨#[]⟩, .slice none 0 0]; replace hE := hE.alloc (.cells #[.slice none 0 0, .string ⟨#[]⟩, .string ⟨#[]⟩, .slice none 0 0] 58)
     try go_wp2_with fail
     refine hK.out _ _ ?_ (fun hHeld => ?_)
     ·(try dsimp only); exact HC6.out _ hE
     clear hK K
     try simp only [zP]
     refine wpAnyH_ready (rs := [11]) (by kernel_rfl) (by simp) ?_
     refine AllReadyH.cons (o := ⟨some 7, _, _, _, _, _⟩) rfl (fun K hK => ?_) AllReadyH.nil
     go_simp
     have hb7 := Blk.new (wr.drew.alloc (.cells #[.slice none 0 0, .string ⟨#[]⟩, .string ⟨#[]⟩, .slice none 0 0] 58)) 58 #[.slice none 0 0, .string ⟨#[]⟩, .string ⟨#[]⟩, .slice none 0 0]; rw [World.size_alloc] at hb7; replace hb6 := hb6.alloc (.cells #[.slice none 0 0, .string ⟨#[]⟩, .string ⟨#[]⟩, .slice none 0 0] 58); replace hE := hE.alloc (.cells #[.slice none 0 0, .string ⟨#[]⟩, .string ⟨#[]⟩, .slice none 0 0] 58)
     try go_wp2_with fail
     refine hK.out _ _ ?_ (fun hHeld => ?_)
     ·(try dsimp only); exact HC6.out _ hE
     clear hK K
     try simp only [zP]
     refine wpAnyH_ready (rs := [12]) (by kernel_rfl) (by simp) ?_
     refine AllReadyH.cons (o := ⟨none, _, _, _, _, _⟩) rfl (fun K hK => ?_) AllReadyH.nil
     refine step_storeB rfl 58 (.tmp 6) (.tmp 56) rfl rfl wr.drew.heap.size _ rfl rfl 58 _ hb6 infoVt4 rfl (by simp [Value.oneCell']) ?_; intro w10 hn6 hx10; replace hb7 := hb7.grown hx10 (by simp); replace hE := hE.growB hx10 (by have h9 := hbr.size; have h8 : wr.drew.heap.size = wr.heap.size := rfl; (try simp only [World.size_alloc]); omega)
     refine hK.out _ _ ?_ (fun hHeld => ?_)
     ·(try dsimp only); exact HC6.out _ hE
     clear hK K
     try simp only [zP]
     refine wpAnyH_ready (rs := [13]) (by kernel_rfl) (by simp) ?_
     refine AllReadyH.cons (o := ⟨none, _, _, _, _, _⟩) rfl (fun K hK => ?_) AllReadyH.nil
     refine step_storeB rfl 58 (.tmp 7) (.tmp 61) rfl rfl (wr.drew.heap.size + 1) _ rfl rfl 58 _ hb7 infoVt4 rfl (by simp [Value.oneCell']) ?_; intro w11 hn7 hx11; replace hn6 := hn6.grown hx11 (by simp); replace hE := hE.growB hx11 (by have h9 := hbr.size; have h8 : wr.drew.heap.size = wr.heap.size := rfl; (try simp only [World.size_alloc]); omega)
     refine hK.out _ _ ?_ (fun hHeld => ?_)
     ·(try dsimp only); exact HC6.out _ hE
     clear hK K
     try simp only [zP]
     refine wpAnyH_done (by kernel_rfl) ?_ _
     refine hK9 _ _ (Met.intro (hJ9 _ _ ?_))
     (repeat apply Exists.intro)
     refine ⟨?_, rfl⟩
     exact ⟨_, _, rfl, rfl, hn6, hn7, hE⟩
    ·go_simp
     have hb7 := Blk.new wr.drew 58 #[.slice none 0 0, .string ⟨#[]⟩, .string ⟨#[]⟩, .slice none 0 0]; replace hE := hE.alloc (.cells #[.slice none 0 0, .string ⟨#[]⟩, .string ⟨#[]⟩, .slice none 0 0] 58)
     try go_wp2_with fail
     refine hK.out _ _ ?_ (fun hHeld => ?_)
     ·(try dsimp only); exact HC6.out _ hE
     clear hK K
     try simp only [zP]
     refine wpAnyH_ready (rs := [10]) (by kernel_rfl) (by simp) ?_
     refine AllReadyH.cons (o := ⟨some 6, _, _, _, _, _⟩) rfl (fun K hK => ?_) AllReadyH.nil
     go_simp
     have hb6 := Blk.new (wr.drew.alloc (.cells #[.slice none 0 0, .string ⟨#[]⟩, .string ⟨#[]⟩, .slice none 0 0] 58)) 58 #[.slice none 0 0, .string ⟨#[]⟩, .string ⟨#[]⟩, .slice none 0 0]; rw [World.size_alloc] at hb6; replace hb7 := hb7.alloc (.cells #[.slice none 0 0, .string ⟨#[]⟩, .string ⟨#[]⟩, .slice none 0 0] 58); replace hE := hE.alloc (.cells #[.slice none 0 0, .string ⟨#[]⟩, .string ⟨#[]⟩, .slice none 0 0] 58)
     try go_wp2_with fail
     refine hK.out _ _ ?_ (fun hHeld => ?_)
     ·(try dsimp only); exact HC6.out _ hE
     clear hK K
     try simp only [zP]
     refine wpAnyH_ready (rs := [12]) (by kernel_rfl) (by simp) ?_
     refine AllReadyH.cons (o := ⟨none, _, _, _, _, _⟩) rfl (fun K hK => ?_) AllReadyH.nil
     refine step_storeB rfl 58 (.tmp 6) (.tmp 56) rfl rfl (wr.drew.heap.size + 1) _ rfl rfl 58 _ hb6 infoVt4 rfl (by simp [Value.oneCell']) ?_; intro w10 hn6 hx10; replace hb7 := hb7.grown hx10 (by simp); replace hE := hE.growB hx10 (by have h9 := hbr.size; have h8 : wr.drew.heap.size = wr.heap.size := rfl; (try simp only [World.size_alloc]); omega)
     refine hK.out _ _ ?_ (fun hHeld => ?_)
     ·(try dsimp only); exact HC6.out _ hE
     clear hK K
     try simp only [zP]
     refine wpAnyH_ready (rs := [13]) (by kernel_rfl) (by simp) ?_
     refine AllReadyH.cons (o := ⟨none, _, _, _, _, _⟩) rfl (fun K hK => ?_) AllReadyH.nil
     refine step_storeB rfl 58 (.tmp 7) (.tmp 61) rfl rfl wr.drew.heap.size _ rfl rfl 58 _ hb7 infoVt4 rfl (by simp [Value.oneCell']) ?_; intro w11 hn7 hx11; replace hn6 := hn6.grown hx11 (by simp); replace hE := hE.growB hx11 (by have h9 := hbr.size; have h8 : wr.drew.heap.size = wr.heap.size := rfl; (try simp only [World.size_alloc]); omega)
     refine hK.out _ _ ?_ (fun hHeld => ?_)
     ·(try dsimp only); exact HC6.out _ hE
     clear hK K
     try simp only [zP]
     refine wpAnyH_done (by kernel_rfl) ?_ _
     refine hK9 _ _ (Met.intro (hJ9 _ _ ?_))
     (repeat apply Exists.intro)
     refine ⟨?_, rfl⟩
     exact ⟨_, _, rfl, rfl, hn6, hn7, hE⟩
   case rest =>
   obtain ⟨b6, b7, rfl, rfl, hB6, hB7, hE6⟩ := hcut
   generalize wc = w6 at *
   have HV1 := zi (show VrAt Q1 w6 (⟨names, key, tag, xb⟩, ⟨⟨n1A, n1n, n1c⟩, ⟨d1A, d1n, d1c⟩⟩) from ⟨HV1.out.nm.ext hE6, HV1.out.bd.ext hE6⟩); have HV2 := zi (show VrAt Q2 w6 (⟨names, key, tag, xb⟩, ⟨⟨n2A, n2n, n2c⟩, ⟨d2A, d2n, d2c⟩⟩) from ⟨HV2.out.nm.ext hE6, HV2.out.bd.ext hE6⟩)
   have hc1 := conv_BE (c := d1c) HV1.out.bd.rd
   have hc2 := conv_BE (c := d2c) HV2.out.bd.rd
   (try simp only at hc1 hc2)
   have x0 : w6.cell? ⟨b6, 0, none⟩ = some (.slice n1A n1n n1c) := hB6.cell 0; have x1 : w6.cell? ⟨b6, 1, none⟩ = some (.string key) := hB6.cell 1; have x2 : w6.cell? ⟨b6, 2, none⟩ = some (.string tag) := hB6.cell 2; have x3 : w6.cell? ⟨b6, 3, none⟩ = some (.slice d1A d1n d1c) := hB6.cell 3
   have y0 : w6.cell? ⟨b7, 0, none⟩ = some (.slice n2A n2n n2c) := hB7.cell 0; have y1 : w6.cell? ⟨b7, 1, none⟩ = some (.string key) := hB7.cell 1; have y2 : w6.cell? ⟨b7, 2, none⟩ = some (.string tag) := hB7.cell 2; have y3 : w6.cell? ⟨b7, 3, none⟩ = some (.slice d2A d2n d2c) := hB7.cell 3
   have qk : (key.toList != key.toList) = false := by simp
   have qt : (tag.toList != tag.toList) = false := by simp
   have qx : (xb.toList != xb.toList) = false := by simp
   go_wp2_with fail
   refine (base_Texts n1A n2A n1n n1c n2n n2c names names w6 HV1.out.nm.rd HV2.out.nm.rd (by omega) (by omega)).mono ?_; rintro e w7 ⟨rfl, hb7⟩
   rw [decide_eq_true rfl]
   clear x0 x1 x2 x3 y0 y1 y2 y3 hc1 hc2
   go_wp2_with fail
   first | go_roundw | refine ⟨?rel, ?measure⟩
   case rel => exact ⟨k + 1, by omega, by go_num, (hbr.trans hE6).trans hb7⟩
   case measure => simp [intOf]; omega
  ·obtain rfl : k = v1n := by omega
   go_wp2_with fail
   go_ret
   exact ⟨rfl, HW.out.trans hbr⟩
structure Ac.Sm (a : Ac) : Prop where
 vars : a.m.vars.length ≤ 1048576
 names : ∀ x ∈ a.m.vars, x.1.names.length ≤ 1048576
structure AcsAt (w : World) (A : Option Addr) (n : Nat) (l : List Ac) : Prop where
 rd : Rd w 11 A n (l.flatMap Ac.cells)
 each : ∀ a ∈ l, a.At w
 sm : ∀ a ∈ l, a.Sm
theorem acs_len (l : List Ac) : (l.flatMap Ac.cells).length = l.length * 11 := by
 induction l with
 | nil => rfl
 | cons x l ih => rw [List.flatMap_cons, List.length_append, ih, List.length_cons]; show 11 + _ = _; omega
theorem AcsAt.ext {w w' : World} {A : Option Addr} {n : Nat} {l : List Ac} (h : AcsAt w A n l) (hb : Ext w w') : AcsAt w' A n l := ⟨h.rd.ext hb, fun a ha => (h.each a ha).ext hb, h.sm⟩
theorem AcsAt.len {w : World} {A : Option Addr} {n : Nat} {l : List Ac} (h : AcsAt w A n l) : l.length = n := by have h1 := h.rd.1; rw [acs_len] at h1; omega
theorem AcsAt.at_ {w : World} {A : Option Addr} {n : Nat} {l : List Ac} (h : AcsAt w A n l) {k : Nat} (hk : k < l.length) : ∃ b i, A = some ⟨b, i, none⟩ ∧ w.cell? ⟨b, i + k * 11, none⟩ = l[k].cells[0]? ∧ ∀ j, j < 10 → w.cell? ⟨b, i + k * 11 + (j + 1), none⟩ = l[k].cells[j + 1]? := by
 obtain ⟨b, i, e, hc⟩ := h.rd.2 (by rw [acs_len]; omega)
 have hx : ∀ j, j < 11 → w.cell? ⟨b, i + (k * 11 + j), none⟩ = l[k].cells[j]? := fun j hj => by
  have h1 := flat_at Ac.cells 11 (fun _ => rfl) l k j hk hj
  have hj2 : j < l[k].cells.length := hj
  rw [List.getElem?_eq_getElem hj2] at h1 ⊢
  exact hc _ _ h1
 exact ⟨b, i, e, hx 0 (by omega), fun j hj => by rw [Nat.add_assoc]; exact hx (j + 1) (by omega)⟩
theorem act_large (A : Option Addr) (n c : Nat) (l : List Ac) (w : World) (h : AcsAt w A n l) (hz : (l.map szA).sum ≤ 1000000000000) (hn : n ≤ 1000000000) :
  Calls Tryz.prog 28 #[.slice A n c] w fun e w' => e = .returned (.bool (decide (5000 < (l.map szA).sum) || decide (30 < n))) ∧ Ext w w' := by
 have HA := zi h
 have Hl := zi h.len
 obtain ⟨Z, hZ⟩ : ∃ Z, (l.map szA).sum = Z := ⟨_, rfl⟩
 have HZ := zi hZ
 rw [hZ] at hz ⊢
 clear h hZ
 go_enter Tryz.func28, Tryz.ntmps28
 go_wp2_with fail
 go_loopw [3, 8] (fun v i wr => ∃ k : Nat, k ≤ n ∧ v = .int .i64 (((l.take k).map szA).sum : Nat) ∧ i = .int .i64 (k : Nat) ∧ Ext w wr) (fun _ i _ => n - (intOf i).toNat)
 case atStart => exact ⟨0, Nat.zero_le _, by rw [List.take_zero]; rfl, rfl, Ext.refl _⟩
 case round =>
  obtain ⟨k, hk, rfl, rfl, hbr⟩ := hrel
  by_cases hlt : k < n
  ·have hkl : k < l.length := by have := Hl.out; omega
   obtain ⟨b, i, rfl, hc0, hc⟩ := (HA.out.ext hbr).at_ hkl
   have hst := sum_tk szA hkl
   have hle := sum_tl szA l (k + 1)
   rw [HZ.out, hst] at hle
   have HSt := zi hst
   have HAk := zi (HA.out.each _ (List.getElem_mem hkl)); have HSk := zi (HA.out.sm _ (List.getElem_mem hkl))
   clear hst
   generalize ((l.take k).map szA).sum = X at *
   generalize l[k] = a at *
   clear hkl
   have hsa : szA a ≤ 1000000000000 := by omega
   have HSz := zi (fun w' (hx : Ext w w') => law_size a w' (HAk.out.ext hx) hsa HSk.out.vars HSk.out.names)
   generalize szA a = z at *
   obtain ⟨kd, t1, t2, ⟨addr, status, f, body, vars, ⟨fA, fn, fc⟩, ⟨bA, bn, bc⟩, ⟨vA, vn, vc⟩⟩, me, ta, rf, ⟨rA, rn, rc⟩⟩ := a
   simp only [Ac.cells, Sl.v, List.getElem?_cons_zero, List.getElem?_cons_succ] at hc0 hc HSz
   have c0 : wr.cell? ⟨b, i + k * 11, none⟩ = some (.int .u8 kd) := hc0
   have c1 : wr.cell? ⟨b, i + k * 11 + 1, none⟩ = some (.int .i64 t1) := hc 0 (by omega)
   have c2 : wr.cell? ⟨b, i + k * 11 + 2, none⟩ = some (.int .i64 t2) := hc 1 (by omega)
   have c3 : wr.cell? ⟨b, i + k * 11 + 3, none⟩ = some (.string addr) := hc 2 (by omega)
   have c4 : wr.cell? ⟨b, i + k * 11 + 4, none⟩ = some (.int .i64 status) := hc 3 (by omega)
   have c5 : wr.cell? ⟨b, i + k * 11 + 5, none⟩ = some (.slice fA fn fc) := hc 4 (by omega)
   have c6 : wr.cell? ⟨b, i + k * 11 + 6, none⟩ = some (.slice bA bn bc) := hc 5 (by omega)
   have c7 : wr.cell? ⟨b, i + k * 11 + 7, none⟩ = some (.slice vA vn vc) := hc 6 (by omega)
   have c8 : wr.cell? ⟨b, i + k * 11 + 8, none⟩ = some (.string me) := hc 7 (by omega)
   have c9 : wr.cell? ⟨b, i + k * 11 + 9, none⟩ = some (.string ta) := hc 8 (by omega)
   have c10 : wr.cell? ⟨b, i + k * 11 + 10, none⟩ = some (.slice rA rn rc) := hc 9 (by omega)
   clear hc hc0
   have hE := hbr.alloc (.cells #[.int .u8 kd, .int .i64 t1, .int .i64 t2, .string addr, .int .i64 status, .slice fA fn fc, .slice bA bn bc, .slice vA vn vc, .string me, .string ta, .slice rA rn rc] 68)
   have HB := zi (Blk.new wr 68 #[.int .u8 kd, .int .i64 t1, .int .i64 t2, .string addr, .int .i64 status, .slice fA fn fc, .slice bA bn bc, .slice vA vn vc, .string me, .string ta, .slice rA rn rc])
   have hkn : (k : Int) < n := by omega
   have hwk : IntKind.i64.wrap (k : Int) = (k : Int) := IntWalk.i64_in _ (by omega)
   have hw1 : IntKind.i64.wrap ((k : Int) + 1) = (k : Int) + 1 := IntWalk.i64_in _ (by omega)
   have hwX : IntKind.i64.wrap ((X : Int) + (z : Int)) = (X : Int) + (z : Int) := IntWalk.i64_in _ (by omega)
   go_upto_region 5 with fail
   clear c0 c1 c2 c3 c4 c5 c6 c7 c8 c9 c10
   generalize wr.alloc (.cells #[.int .u8 kd, .int .i64 t1, .int .i64 t2, .string addr, .int .i64 status, .slice fA fn fc, .slice bA bn bc, .slice vA vn vc, .string me, .string ta, .slice rA rn rc] 68) = w5 at *
   generalize wr.heap.size = b5 at *
   have d0 : w5.cell? ⟨b5, 0, none⟩ = some (.int .u8 kd) := HB.out.cell 0
   have d1 : w5.cell? ⟨b5, 1, none⟩ = some (.int .i64 t1) := HB.out.cell 1
   have d2 : w5.cell? ⟨b5, 2, none⟩ = some (.int .i64 t2) := HB.out.cell 2
   have d3 : w5.cell? ⟨b5, 3, none⟩ = some (.string addr) := HB.out.cell 3
   have d4 : w5.cell? ⟨b5, 4, none⟩ = some (.int .i64 status) := HB.out.cell 4
   have d5 : w5.cell? ⟨b5, 5, none⟩ = some (.slice fA fn fc) := HB.out.cell 5
   have d6 : w5.cell? ⟨b5, 6, none⟩ = some (.slice bA bn bc) := HB.out.cell 6
   have d7 : w5.cell? ⟨b5, 7, none⟩ = some (.slice vA vn vc) := HB.out.cell 7
   have d8 : w5.cell? ⟨b5, 8, none⟩ = some (.string me) := HB.out.cell 8
   have d9 : w5.cell? ⟨b5, 9, none⟩ = some (.string ta) := HB.out.cell 9
   have d10 : w5.cell? ⟨b5, 10, none⟩ = some (.slice rA rn rc) := HB.out.cell 10
   go_wp2_with fail
   refine (HSz.out w5 hE).mono ?_; rintro e w6 ⟨rfl, hb6⟩
   clear d0 d1 d2 d3 d4 d5 d6 d7 d8 d9 d10
   go_wp2_with fail
   first | go_roundw | refine ⟨?rel, ?measure⟩
   case rel => exact ⟨k + 1, by omega, by rw [HSt.out]; go_num, by go_num, hE.trans hb6⟩
   case measure => simp [intOf]; omega
  ·obtain rfl : k = n := by omega
   have hX : ((l.take k).map szA).sum = Z := by rw [← Hl.out, List.take_length]; exact HZ.out
   rw [hX]
   by_cases h1 : 5000 < Z
   ·have h2 : ((5000 : Int) < (Z : Int)) := by omega
    go_wp2_with fail
    go_ret
    exact ⟨by rw [decide_eq_true h1]; rfl, hbr⟩
   ·have h2 : ¬ ((5000 : Int) < (Z : Int)) := by omega
    by_cases h3 : 30 < k
    ·have h4 : ((30 : Int) < (k : Int)) := by omega
     go_wp2_with fail
     go_ret
     exact ⟨rfl, hbr⟩
    ·have h4 : ¬ ((30 : Int) < (k : Int)) := by omega
     go_wp2_with fail
     go_ret
     exact ⟨rfl, hbr⟩
end Go.Proofs.YtmckbcbdnckngaaGreatDoor

namespace Go.Proofs.YtmckbcbdnckngaaGreatDoor
open Go.RowKit

def QP (R : Nat → Prop) (w : World) (b6 : Nat) : Nat → Prop := fun i => R i ∨ i = b6 ∨ i = w.heap.size
def QS (R : Nat → Prop) (w : World) (b6 : Nat) (s : SM) : Nat → Prop := fun i => QP R w b6 i ∨ s.br.v.ownBlock = some i
structure PlH (w wr : World) (p b6 : Nat) (R Q : Nat → Prop) (M : OM) (s : SM) (o1 o2 : Org) : Prop where
 org : OrgP wr p R Q o1 M
 st : s.At (QS R w b6 s) wr o2
 c6 : Blk wr b6 74 s.cells.toArray
 c3 : Blk wr w.heap.size 74 #[.slice none 0 0, .slice none 0 0, .slice none 0 0]
 own : wr.ownsRow 0 65 2 s.br.v o2.br.length (o2.br.flatMap spnC)
 cap : s.br.n ≤ s.br.c
 off : ∀ g, s.br.v.ownBlock = some g → ¬ QP R w b6 g ∧ w.heap.size ≤ g ∧ Q g
 low : ∀ i, R i → w.heap.size ≤ i ∧ i ≠ b6 ∧ i ≠ w.heap.size
 q6 : Q b6
 q3 : Q w.heap.size
 lt : w.heap.size < b6
 ext : Ext w wr
 ql : ∀ i, i < w.heap.size → Q i
section
variable {w wr w1 w2 w3 : World} {p b6 : Nat} {R Q R' Q' : Nat → Prop} {M M' : OM} {s s' : SM} {o1 o2 o1' o2' : Org}
theorem PlH.next (h : PlH w wr p b6 R Q M s o1 o2) (hb : Ext wr w1) : PlH w w1 p b6 R Q M s o1 o2 :=
 ⟨h.org.ext hb, h.st.ext hb, h.c6.ext hb, h.c3.ext hb, own_ext h.own hb, h.cap, h.off, h.low, h.q6, h.q3, h.lt, h.ext.trans hb, h.ql⟩
theorem PlH.brd (h : PlH w wr p b6 R Q M s o1 o2) : Rd wr 2 s.br.A s.br.n (o2.br.flatMap spnC) ∧ s.br.n = o2.br.length := by
 obtain ⟨s2, hs, hn, hr⟩ := RS.own h.own
 obtain rfl := sl_inj hs
 exact ⟨hr.rd, hn⟩
theorem PlH.prog (h : PlH w wr p b6 R Q M s o1 o2) (hO : OrgP w1 p R' Q' o1' M') (hk : Keeps R wr w1) (h1 : ∀ i, R i → R' i) (h2 : ∀ i, R' i → R i ∨ wr.heap.size ≤ i) (hq : ∀ i, Q i → i < wr.heap.size → Q' i) :
  PlH w w1 p b6 R' Q' M' s o1' o2 := by
 have n6 : ¬ R b6 := fun hr => (h.low b6 hr).2.1 rfl
 have n3 : ¬ R w.heap.size := fun hr => (h.low _ hr).2.2 rfl
 have l6 := h.c6.lt
 have l3 := h.c3.lt
 have lo : ∀ g, s.br.v.ownBlock = some g → g < wr.heap.size := fun g hg => (h.own.lt g hg).2
 refine ⟨hO, (h.st.more (Q' := QS R' w b6 s) (fun i hi => ?_)).keep hk (fun i hi => .inl (.inl (.inl (h1 i hi)))), h.c6.keep hk n6, h.c3.keep hk n3, own_keepS h.own hk (fun b hb hs => (h.off b hb).1 (.inl hs)), h.cap, fun g hg => ⟨fun hq => ?_, (h.off g hg).2.1, hq g (h.off g hg).2.2 (lo g hg)⟩, fun i hi => ?_, hq _ h.q6 l6, hq _ h.q3 l3, h.lt, h.ext.keeps hk (fun i hi => (h.low i hi).1), fun i hi => hq i (h.ql i hi) (by have := h.ext.size; omega)⟩
 ·rcases hi with (hi | hi) | hi
  ·exact (h2 i hi).imp (fun x => .inl (.inl x)) id
  ·exact .inl (.inl (.inr hi))
  ·exact .inl (.inr hi)
 ·rcases hq with hq | hq
  ·rcases h2 g hq with hq | hq
   ·exact (h.off g hg).1 (.inl hq)
   ·have := lo g hg; omega
  ·exact (h.off g hg).1 (.inr hq)
 ·rcases h2 i hi with hi | hi
  ·exact h.low i hi
  ·have := h.ext.size
   exact ⟨by omega, by omega, by omega⟩
theorem PlH.model {QM : Nat → Prop} (h : PlH w w1 p b6 R Q M s o1 o2) (hs : s'.At QM w2 o2') (hq : ∀ i, QS R w b6 s i → w.heap.size ≤ i → i < w1.heap.size → QM i) (hb : s'.br = s.br) (hob : o2'.br = o2.br) (hE : Ext w1 w2)
  (hB : Blk w3 b6 74 s'.cells.toArray) (hX : ExtB b6 w2 w3) : PlH w w3 p b6 R Q M s' o1 o2' := by
 have n6 : ¬ R b6 := fun hr => (h.low b6 hr).2.1 rfl
 have l6 := h.c6.lt
 have l3 := h.c3.lt
 have hlt := h.lt
 have hQl : ∀ i, QS R w b6 s i → w.heap.size ≤ i ∧ i < w1.heap.size := fun i hi => by
  rcases hi with (hi | hi | hi) | hi
  ·exact ⟨(h.low i hi).1, h.org.low i hi⟩
  ·omega
  ·omega
  ·exact ⟨(h.off i hi).2.1, (h.own.lt i hi).2⟩
 have KX : Keeps (fun i => i = b6) w2 w3 := Keeps.grown (Keeps.refl _ _) hX (fun b hb => .inl (by injection hb with hb; exact hb.symm))
 have hst : s'.At (QS R w b6 s') w2 o2' := hs.sub (fun i hi => by
  have hi2 : QS R w b6 s i := hi.imp id (fun e => by rw [← hb]; exact e)
  exact hq i hi2 (hQl i hi2).1 (hQl i hi2).2)
 refine ⟨(h.org.ext hE).keeps KX (fun i hi => by rw [show i = b6 from hi]; exact ⟨n6, h.q6⟩), hst.keep KX (fun i hi => .inl (by rw [show i = b6 from hi]; exact .inl (.inr (.inl rfl)))), hB,
  (h.c3.ext hE).keep KX (fun hi => by have hi' : w.heap.size = b6 := hi; omega), ?_, by rw [hb]; exact h.cap, fun g hg => h.off g (by rw [← hb]; exact hg), h.low, h.q6, h.q3, h.lt, (h.ext.trans hE).growB hX (by omega), h.ql⟩
 rw [hob, hb]
 exact own_keepS (own_ext h.own hE) KX (fun b hg hi => (h.off b hg).1 (.inr (.inl hi)))
theorem PlH.broken {A : Option Addr} {c : Nat} {x : Int × Int} (h : PlH w w1 p b6 R Q M s o1 o2) (hown : w2.ownsRow 0 65 2 (.slice A (o2.br.length + 1) c) (o2.br.length + 1) (o2.br.flatMap spnC ++ spnC x)) (hc : o2.br.length + 1 ≤ c)
  (hg : w1.grownBy w2 s.br.v.ownBlock) (hn : (Value.slice A (o2.br.length + 1) c).ownBlock = s.br.v.ownBlock ∨ (Value.slice A (o2.br.length + 1) c).ownBlock = some w1.heap.size) :
  PlH w (w2.setCell ⟨b6, 1, none⟩ (.slice A (o2.br.length + 1) c)) p b6 R (fun i => Q i ∨ w1.heap.size ≤ i) M { s with br := ⟨A, o2.br.length + 1, c⟩ } o1 { o2 with br := o2.br ++ [x] } := by
 have n6 : ¬ R b6 := fun hr => (h.low b6 hr).2.1 rfl
 have l6 := h.c6.lt
 have l3 := h.c3.lt
 have hS : ∀ i, (s.br.v.ownBlock = some i ∨ i = b6) → ¬ R i ∧ i ≠ w.heap.size ∧ w.heap.size ≤ i ∧ Q i := fun i hi => by
  rcases hi with hi | hi
  ·have h9 := h.off i hi
   exact ⟨fun hr => h9.1 (.inl hr), fun he => h9.1 (.inr (.inr he)), h9.2.1, h9.2.2⟩
  ·have := h.lt
   rw [hi]
   exact ⟨n6, by omega, by omega, h.q6⟩
 have hK : Keeps (fun i => s.br.v.ownBlock = some i ∨ i = b6) w1 (w2.setCell ⟨b6, 1, none⟩ (.slice A (o2.br.length + 1) c)) :=
  (Keeps.grown (Keeps.refl _ w1) hg (fun b hb => .inl (.inl hb))).set_ (b := b6) (.inr rfl) 1 _
 have hne : ∀ g, (Value.slice A (o2.br.length + 1) c).ownBlock = some g → ¬ QP R w b6 g ∧ w.heap.size ≤ g ∧ (Q g ∨ w1.heap.size ≤ g) := fun g hg9 => by
  rcases hn with e | e
  ·rw [e] at hg9; have h9 := h.off g hg9; exact ⟨h9.1, h9.2.1, .inl h9.2.2⟩
  ·rw [e] at hg9
   injection hg9 with hg9
   have := h.ext.size
   refine ⟨fun hq => ?_, by omega, .inr (by omega)⟩
   rcases hq with hq | hq | hq
   ·have := h.org.low g hq; omega
   ·omega
   ·omega
 have hB : Blk w2 b6 74 s.cells.toArray := h.c6.grown hg (fun e => (h.off b6 e.symm).1 (.inr (.inl rfl)))
 have hown2 := own_keepS hown ((Keeps.refl (fun i => i = b6) w2).set_ (b := b6) rfl 1 (.slice A (o2.br.length + 1) c)) (fun b hb hi => (hne b hb).1 (.inr (.inl hi)))
 have hst := ((h.st.more (Q' := fun i => QS R w b6 s i ∨ (Value.slice A (o2.br.length + 1) c).ownBlock = some i) (fun i hi => hi.elim .inl (fun e => hn.elim (fun e2 => .inl (.inr (e2 ▸ e))) (fun e2 => .inr (by rw [e2] at e; injection e with e; omega))))).keep hK
  (fun i hi => .inl (.inl (hi.elim .inr (fun e => .inl (.inr (.inl e))))))).sub (Q' := QS R w b6 { s with br := ⟨A, o2.br.length + 1, c⟩ }) (fun i hi => hi.elim (fun e => .inl (.inl e)) .inr)
 refine ⟨(h.org.more (Q' := fun i => Q i ∨ w1.heap.size ≤ i) (fun i hi => hi) (fun b hb => .inl (h.org.rq b hb))).keeps hK (fun i hi => ⟨(hS i hi).1, .inl (hS i hi).2.2.2⟩), ⟨hst.its, hst.ver, hst.mem, hst.lg, hst.len⟩, hB.set_ 1 _, h.c3.keep hK (fun hi => (hS _ hi).2.1 rfl), ?_, hc, hne, h.low, .inl h.q6, .inl h.q3, h.lt, h.ext.keeps hK (fun i hi => (hS i hi).2.2.1), fun i hi => .inl (h.ql i hi)⟩
 rw [List.flatMap_append, show [x].flatMap spnC = spnC x by simp, List.length_append]
 exact hown2
end
section
variable {w w1 w2 : World} {p b6 g : Nat} {R Q : Nat → Prop} {M : OM} {s : SM} {o1 o2 : Org}
theorem PlH.qlt (h : PlH w w1 p b6 R Q M s o1 o2) : ∀ i, QS R w b6 s i → i < w1.heap.size := fun i hi => by
 have l6 := h.c6.lt
 have l3 := h.c3.lt
 rcases hi with (hi | hi | hi) | hi
 ·exact h.org.low i hi
 ·omega
 ·omega
 ·exact (h.own.lt i hi).2
theorem PlH.wideQ (h : PlH w w1 p b6 R Q M s o1 o2) : PlH w w1 p b6 R (fun i => Q i ∨ w1.heap.size ≤ i) M s o1 o2 :=
 ⟨h.org.more (fun i hi => hi) (fun b hb => .inl (h.org.rq b hb)), h.st, h.c6, h.c3, h.own, h.cap, fun g hg => ⟨(h.off g hg).1, (h.off g hg).2.1, .inl (h.off g hg).2.2⟩, h.low, .inl h.q6, .inl h.q3, h.lt, h.ext, fun i hi => .inl (h.ql i hi)⟩
theorem PlH.far (h : PlH w w1 p b6 R Q M s o1 o2) (st : s.At (fun i => QS R w b6 s i ∨ i = g) w1 o2) (hX : ExtB g w1 w2) (hR : ¬ R g) (hQ : Q g) (h6 : b6 ≠ g) (h3 : w.heap.size ≠ g) (ho : s.br.v.ownBlock ≠ some g) (hl : w.heap.size ≤ g) : PlH w w2 p b6 R Q M s o1 o2 := by
 have KX : Keeps (fun i => i = g) w1 w2 := Keeps.grown (Keeps.refl _ _) hX (fun b hb => .inl (by injection hb with hb; exact hb.symm))
 exact ⟨h.org.keeps KX (fun i hi => by rw [show i = g from hi]; exact ⟨hR, hQ⟩), (st.keep KX (fun i hi => .inl (.inr hi))).sub (fun i hi => .inl hi), h.c6.keep KX h6, h.c3.keep KX h3, own_keepS h.own KX (fun b hb hi => ho (by rw [hb, show b = g from hi])), h.cap, h.off, h.low, h.q6, h.q3, h.lt, h.ext.growB hX hl, h.ql⟩
theorem PlH.done (h : PlH w w1 p b6 R Q M s o1 o2) (hX : ExtB w.heap.size w1 w2) : OrgP w2 p R Q o1 M ∧ s.At R w2 o2 ∧ (∀ i, R i → w.heap.size ≤ i) ∧ (∀ i, i < w.heap.size → Q i) ∧ Ext w w2 := by
 have KX : Keeps (fun i => i = w.heap.size) w1 w2 := Keeps.grown (Keeps.refl _ _) hX (fun b hb => .inl (by injection hb with hb; exact hb.symm))
 exact ⟨h.org.keeps KX (fun i hi => by rw [show i = w.heap.size from hi]; exact ⟨fun hr => (h.low _ hr).2.2 rfl, h.q3⟩), (h.st.keep KX (fun i hi => .inl (.inl (.inr (.inr hi))))).sub (fun i hi => .inl (.inl hi)), fun i hi => (h.low i hi).1, h.ql, h.ext.growB hX (Nat.le_refl _)⟩
end
theorem PlH.new {w w2 : World} (hO : OrgP w2 (w.heap.size + 1) (fun i => i = w.heap.size + 1) (fun _ => True) org0 ⟨sl0, sl0, sl0, []⟩) (hE : Ext (w.alloc (.cells #[.slice none 0 0, .slice none 0 0, .slice none 0 0] 74)) w2) :
  PlH w (w2.alloc (.cells #[.slice none 0 0, .slice none 0 0, .slice none 0 0] 74)) (w.heap.size + 1) w2.heap.size (fun i => i = w.heap.size + 1) (fun _ => True) ⟨sl0, sl0, sl0, []⟩ ⟨sl0, sl0, sl0, [], []⟩ org0 org0 := by
 have hX := (Ext.refl w2).alloc (.cells #[.slice none 0 0, .slice none 0 0, .slice none 0 0] 74)
 have hl := hO.low _ rfl
 exact ⟨hO.ext hX, SM.new _ _, Blk.new w2 _ _, ((Blk.new w _ _).ext hE).ext hX, World.ownsRow_nil _ _ _ _, Nat.le_refl _, fun g hg => (by cases hg), fun i hi => (by have hi' : i = w.heap.size + 1 := hi; exact ⟨by omega, by omega, by omega⟩), trivial, trivial, by omega, (((Ext.refl w).alloc _).trans hE).trans hX, fun _ _ => trivial⟩
theorem gone_sz {text : ByteArray} (h : text.size ≤ 1048000) : SzV (goneV text) :=
 ⟨by show text.size ≤ _; omega, by show 1 ≤ _; omega, by show sumF brief ≤ _; decide, by show x_go.size ≤ _; decide, by show 0 ≤ _; omega, fun x hx => by cases hx⟩
theorem act_sz {a : Ac} (hz : szA a ≤ 5000) (hs : a.Sm) : SzV a.m.ver := by
 have h := szA_ver hz
 obtain ⟨h1, h2, h3, h4, h5, h6, h7, h8⟩ := h
 refine ⟨by show a.m.addr.size ≤ _; omega, by show a.m.f.length ≤ _; omega, by show sumF a.m.f ≤ _; omega, by show a.m.body.size ≤ _; omega, by show (a.m.vars.map (·.1)).length ≤ _; rw [List.length_map]; exact hs.vars, fun x hx => ?_⟩
 obtain ⟨y, hy, rfl⟩ := List.mem_map.1 hx
 have h9 := h8 y hy
 exact ⟨hs.names y hy, fun n hn => by have := h9.2.2.2 n hn; omega, by omega, by omega⟩
def actS (o : Org) (a : Ac) : Org :=
 if a.kd % 4 = 0 then (pubS o a.t1 a.m.ver).2.2
 else if a.kd % 4 = 1 then (pubS o a.t1 (goneV a.m.addr)).2.2
 else if a.kd % 4 = 2 then (if cl55 a.t2 < cl55 a.t1 then o else { o with br := o.br ++ [(cl55 a.t1, cl55 a.t2)] })
 else if chkS a.rf = 0 then (answS o a.t1 ⟨a.me, a.ta, a.rf⟩).2.2.2 else o
def playS (l : List Ac) : Org := l.foldl actS org0
theorem play_step {l : List Ac} {k : Nat} (h : k < l.length) : playS (l.take (k + 1)) = actS (playS (l.take k)) l[k] := by
 unfold playS
 rw [List.take_succ_eq_append_getElem h, List.foldl_append]; rfl
theorem pub_len (o : Org) (t : Int) (v : Ver) : (pubS o t v).2.2.vs.length ≤ o.vs.length + 1 ∧ (pubS o t v).2.2.br = o.br ∧ (pubS o t v).2.2.lg = o.lg := by
 unfold pubS
 split
 ·exact ⟨by simp only; omega, rfl, rfl⟩
 ·split
  ·exact ⟨by simp only; omega, rfl, rfl⟩
  ·split
   ·split
    ·exact ⟨by simp only; omega, rfl, rfl⟩
    ·exact ⟨by simp, rfl, rfl⟩
   ·exact ⟨by simp, rfl, rfl⟩
theorem pub_num (o : Org) (t : Int) (v : Ver) : (pubS o t v).2.1 < 1000 := by
 unfold pubS
 split
 ·show 5 < 1000; decide
 ·split
  ·show 2 < 1000; decide
  ·split
   ·split
    ·show 7 < 1000; decide
    ·show 0 < 1000; decide
   ·show 0 < 1000; decide
theorem act_len (o : Org) (a : Ac) : (actS o a).vs.length ≤ o.vs.length + 1 ∧ (actS o a).br.length ≤ o.br.length + 1 ∧ (actS o a).lg.length ≤ o.lg.length + 1 := by
 unfold actS
 split
 ·have h := pub_len o a.t1 a.m.ver; exact ⟨h.1, by rw [h.2.1]; omega, by rw [h.2.2]; omega⟩
 ·split
  ·have h := pub_len o a.t1 (goneV a.m.addr); exact ⟨h.1, by rw [h.2.1]; omega, by rw [h.2.2]; omega⟩
  ·split
   ·split
    ·exact ⟨by omega, by omega, by omega⟩
    ·exact ⟨by simp only; omega, by simp, by simp only; omega⟩
   ·split
    ·exact ⟨by simp only [answS]; omega, by simp only [answS]; omega, by simp [answS]⟩
    ·exact ⟨by omega, by omega, by omega⟩
theorem fold_len (l : List Ac) : ∀ (o : Org), (l.foldl actS o).vs.length ≤ o.vs.length + l.length ∧ (l.foldl actS o).br.length ≤ o.br.length + l.length ∧ (l.foldl actS o).lg.length ≤ o.lg.length + l.length := by
 induction l with
 | nil => intro o; exact ⟨Nat.le_refl _, Nat.le_refl _, Nat.le_refl _⟩
 | cons a l ih =>
  intro o
  have h1 := ih (actS o a)
  have h2 := act_len o a
  rw [List.foldl_cons, List.length_cons]
  exact ⟨by omega, by omega, by omega⟩
theorem play_len (l : List Ac) : (playS l).vs.length ≤ l.length ∧ (playS l).br.length ≤ l.length ∧ (playS l).lg.length ≤ l.length := by
 have h := fold_len l org0
 exact ⟨by have : org0.vs.length = 0 := rfl; unfold playS; omega, by have : org0.br.length = 0 := rfl; unfold playS; omega, by have : org0.lg.length = 0 := rfl; unfold playS; omega⟩
end Go.Proofs.YtmckbcbdnckngaaGreatDoor

namespace Go.Proofs.YtmckbcbdnckngaaGreatDoor
open Go.RowKit

theorem clip_info2 : (Tryz.prog.info? 65).map (fun i => (i.zero, i.size, i.bytes)) = some (some (.agg #[.int .i64 0, .int .i64 0]), 2, 16) := by kernel_rfl
theorem law_played (A : Option Addr) (n c : Nat) (l : List Ac) (w : World) (h : AcsAt w A n l) (hz : (l.map szA).sum ≤ 5000) (hn : n ≤ 30) (hg : Gl w) (hh : GlH w) (hp : GlP w) :
  Calls Tryz.prog 30 #[.slice A n c] w fun e w' => ∃ (p : Nat) (R Q : Nat → Prop) (M : OM) (s : SM), e = .returned (.tuple #[.pointer (some ⟨p, 0, none⟩), .agg s.cells.toArray, .bool true]) ∧ OrgP w' p R Q (playS l) M ∧ s.At R w' (playS l) ∧ (∀ i, R i → w.heap.size ≤ i) ∧ (∀ i, i < w.heap.size → Q i) ∧ Ext w w' := by
 have HA := zi h
 have Hl := zi h.len
 have HGp := zi (fun w' (hx : Ext w w') => (⟨hg.ext hx, hh.ext hx, hp.ext hx⟩ : Gl w' ∧ GlH w' ∧ GlP w'))
 have Hz := zi hz
 have HT := zi (fun t w' => base_TimeO t w')
 clear h hg hh hp hz
 have hsz1 : (w.alloc (.cells #[.slice none 0 0, .slice none 0 0, .slice none 0 0] 74)).heap.size = w.heap.size + 1 := by simp
 go_enter Tryz.func30, Tryz.ntmps30
 go_wp2_with fail
 refine (or_New _).mono ?_; rintro e w2 ⟨rfl, hO, hb2⟩
 rw [hsz1] at hO ⊢
 have hP := PlH.new hO hb2
 have Hb6 := zi hP.lt
 go_upto_region 5 with fail
 clear hO hb2 hsz1
 generalize w2.alloc (.cells #[.slice none 0 0, .slice none 0 0, .slice none 0 0] 74) = w3 at *
 generalize w2.heap.size = b6 at *
 obtain ⟨p, hpp⟩ : ∃ p, w.heap.size + 1 = p := ⟨_, rfl⟩
 rw [hpp] at hP ⊢
 have HP := zi hP
 clear hP hpp
 go_wp2_with fail
 go_loopw [26] (fun i wr => ∃ k : Nat, k ≤ n ∧ i = .int .i64 (k : Nat) ∧ ∃ (R Q : Nat → Prop) (M : OM) (s : SM), PlH w wr p b6 R Q M s (playS (l.take k)) (playS (l.take k))) (fun i _ => n - (intOf i).toNat)
 case atStart => exact ⟨0, Nat.zero_le _, rfl, _, _, _, _, by rw [List.take_zero]; exact HP.out⟩
 case round =>
  obtain ⟨k, hk, rfl, R, Q, M, s, hP⟩ := hrel
  clear HP
  by_cases hlt : k < n
  ·have hkl : k < l.length := by have := Hl.out; omega
   obtain ⟨b, i, rfl, hc0, hc⟩ := (HA.out.ext hP.ext).at_ hkl
   have HSt := zi (play_step hkl)
   have hle := sum_tl szA l (k + 1)
   rw [sum_tk szA hkl] at hle
   have hsa : szA l[k] ≤ 5000 := by have := Hz.out; omega
   have HSk := HA.out.sm _ (List.getElem_mem hkl)
   have HAk := zi (HA.out.each _ (List.getElem_mem hkl))
   have hSz := act_sz hsa HSk
   obtain ⟨z1, z2, z3, z4, z5, z6, z7, -⟩ := szA_ver hsa
   have hlens := play_len (l.take k)
   rw [List.length_take] at hlens
   have Hle := zi (show (playS (l.take k)).vs.length ≤ 1000000 ∧ (playS (l.take k)).br.length ≤ 1000000 ∧ (playS (l.take k)).lg.length ≤ 1000000 by omega)
   clear hle hlens hsa HSk
   generalize playS (l.take k) = o at *
   generalize l[k] = a at *
   clear hkl
   obtain ⟨kd, t1, t2, ⟨addr, status, f, body, vars, ⟨fA, fn, fc⟩, ⟨bA, bn, bc⟩, ⟨vA, vn, vc⟩⟩, me, ta, rf, ⟨rA, rn, rc⟩⟩ := a
   have HSz := zi hSz
   simp only [Ac.cells, Sl.v, List.getElem?_cons_zero, List.getElem?_cons_succ] at hc0 hc HSt z1 z2 z3 z4 z5 z6 z7
   have c0 : wr.cell? ⟨b, i + k * 11, none⟩ = some (.int .u8 kd) := hc0
   have c1 : wr.cell? ⟨b, i + k * 11 + 1, none⟩ = some (.int .i64 t1) := hc 0 (by omega)
   have c2 : wr.cell? ⟨b, i + k * 11 + 2, none⟩ = some (.int .i64 t2) := hc 1 (by omega)
   have c3 : wr.cell? ⟨b, i + k * 11 + 3, none⟩ = some (.string addr) := hc 2 (by omega)
   have c4 : wr.cell? ⟨b, i + k * 11 + 4, none⟩ = some (.int .i64 status) := hc 3 (by omega)
   have c5 : wr.cell? ⟨b, i + k * 11 + 5, none⟩ = some (.slice fA fn fc) := hc 4 (by omega)
   have c6 : wr.cell? ⟨b, i + k * 11 + 6, none⟩ = some (.slice bA bn bc) := hc 5 (by omega)
   have c7 : wr.cell? ⟨b, i + k * 11 + 7, none⟩ = some (.slice vA vn vc) := hc 6 (by omega)
   have c8 : wr.cell? ⟨b, i + k * 11 + 8, none⟩ = some (.string me) := hc 7 (by omega)
   have c9 : wr.cell? ⟨b, i + k * 11 + 9, none⟩ = some (.string ta) := hc 8 (by omega)
   have c10 : wr.cell? ⟨b, i + k * 11 + 10, none⟩ = some (.slice rA rn rc) := hc 9 (by omega)
   clear hc hc0 hSz
   have hkn : (k : Int) < n := by omega
   have hwk : IntKind.i64.wrap (k : Int) = (k : Int) := IntWalk.i64_in _ (by omega)
   have hw1 : IntKind.i64.wrap ((k : Int) + 1) = (k : Int) + 1 := IntWalk.i64_in _ (by omega)
   have HB := zi (Blk.new wr 68 #[.int .u8 kd, .int .i64 t1, .int .i64 t2, .string addr, .int .i64 status, .slice fA fn fc, .slice bA bn bc, .slice vA vn vc, .string me, .string ta, .slice rA rn rc])
   have hb8 : b6 ≠ wr.heap.size := by have := hP.c6.lt; omega
   have hR8 : ∀ i, R i → i < wr.heap.size := hP.org.low
   have HOb := zi (show ∀ g, s.br.v.ownBlock = some g → g < wr.heap.size from fun g hg => (hP.own.lt g hg).2)
   have hE8 := (Ext.refl wr).alloc (.cells #[.int .u8 kd, .int .i64 t1, .int .i64 t2, .string addr, .int .i64 status, .slice fA fn fc, .slice bA bn bc, .slice vA vn vc, .string me, .string ta, .slice rA rn rc] 68)
   replace hP := hP.next hE8
   go_upto_region 8 with fail
   clear c0 c1 c2 c3 c4 c5 c6 c7 c8 c9 c10
   generalize wr.alloc (.cells #[.int .u8 kd, .int .i64 t1, .int .i64 t2, .string addr, .int .i64 status, .slice fA fn fc, .slice bA bn bc, .slice vA vn vc, .string me, .string ta, .slice rA rn rc] 68) = w8 at *
   have hL8 : wr.heap.size < w8.heap.size := HB.out.lt
   clear hE8
   generalize wr.heap.size = b8 at *
   obtain ⟨⟨iA, im, ic⟩, ⟨uA, un, uc⟩, ⟨lA, ln, lc⟩, mv, ks⟩ := s
   have HP := zi hP
   clear hP
   obtain ⟨r, hr⟩ : ∃ r, kd % 4 = r := ⟨_, rfl⟩
   have hr4 : r < 4 := by omega
   have hq : (kd : Int) % 4 = (r : Int) := by omega
   have HSt := zi (HSt.out.trans (show actS o ⟨kd, t1, t2, ⟨addr, status, f, body, vars, ⟨fA, fn, fc⟩, ⟨bA, bn, bc⟩, ⟨vA, vn, vc⟩⟩, me, ta, rf, ⟨rA, rn, rc⟩⟩ = if r = 0 then (pubS o t1 (⟨addr, status, f, body, vars, ⟨fA, fn, fc⟩, ⟨bA, bn, bc⟩, ⟨vA, vn, vc⟩⟩ : MV).ver).2.2 else if r = 1 then (pubS o t1 (goneV addr)).2.2 else if r = 2 then (if cl55 t2 < cl55 t1 then o else { o with br := o.br ++ [(cl55 t1, cl55 t2)] }) else if chkS rf = 0 then (answS o t1 ⟨me, ta, rf⟩).2.2.2 else o by unfold actS; rw [← hr]))
   clear hr
   match r, hr4 with
   | 0, _ =>
    have HSt := zi (show playS (l.take (k + 1)) = (pubS o t1 (⟨addr, status, f, body, vars, ⟨fA, fn, fc⟩, ⟨bA, bn, bc⟩, ⟨vA, vn, vc⟩⟩ : MV).ver).2.2 from HSt.out)
    have hP := HP.out
    have a0 : w8.cell? ⟨b8, 0, none⟩ = some (.int .u8 kd) := HB.out.cell 0; have a1 : w8.cell? ⟨b8, 1, none⟩ = some (.int .i64 t1) := HB.out.cell 1; have a2 : w8.cell? ⟨b8, 2, none⟩ = some (.int .i64 t2) := HB.out.cell 2; have a3 : w8.cell? ⟨b8, 3, none⟩ = some (.string addr) := HB.out.cell 3; have a4 : w8.cell? ⟨b8, 4, none⟩ = some (.int .i64 status) := HB.out.cell 4; have a5 : w8.cell? ⟨b8, 5, none⟩ = some (.slice fA fn fc) := HB.out.cell 5; have a6 : w8.cell? ⟨b8, 6, none⟩ = some (.slice bA bn bc) := HB.out.cell 6; have a7 : w8.cell? ⟨b8, 7, none⟩ = some (.slice vA vn vc) := HB.out.cell 7; have a8 : w8.cell? ⟨b8, 8, none⟩ = some (.string me) := HB.out.cell 8; have a9 : w8.cell? ⟨b8, 9, none⟩ = some (.string ta) := HB.out.cell 9; have a10 : w8.cell? ⟨b8, 10, none⟩ = some (.slice rA rn rc) := HB.out.cell 10
    have hq0 : (kd : Int) % 4 = 0 := hq
    clear hq
    have HX11 := zi (Blk.new w8 36 #[.string addr, .int .i64 status, .slice fA fn fc, .slice bA bn bc, .slice vA vn vc])
    have hE11 := (Ext.refl w8).alloc (.cells #[.string addr, .int .i64 status, .slice fA fn fc, .slice bA bn bc, .slice vA vn vc] 36)
    go_upto_region 22 with fail
    clear a0 a1 a2 a3 a4 a5 a6 a7 a8 a9 a10
    generalize w8.alloc (.cells #[.string addr, .int .i64 status, .slice fA fn fc, .slice bA bn bc, .slice vA vn vc] 36) = w11 at *
    have h811 : w8.heap.size < w11.heap.size := HX11.out.lt
    have hb11 : b8 ≠ w8.heap.size := by omega
    have hR11 : ∀ i, R i → i ≠ w8.heap.size := fun i hi => by have := hR8 i hi; omega
    generalize w8.heap.size = b11 at *
    have hP11 := hP.next hE11
    have hB11 := HB.out.ext hE11
    have a0 : w11.cell? ⟨b8, 0, none⟩ = some (.int .u8 kd) := hB11.cell 0; have a1 : w11.cell? ⟨b8, 1, none⟩ = some (.int .i64 t1) := hB11.cell 1
    have v0 : w11.cell? ⟨b11, 0, none⟩ = some (.string addr) := HX11.out.cell 0; have v1 : w11.cell? ⟨b11, 1, none⟩ = some (.int .i64 status) := HX11.out.cell 1; have v2 : w11.cell? ⟨b11, 2, none⟩ = some (.slice fA fn fc) := HX11.out.cell 2; have v3 : w11.cell? ⟨b11, 3, none⟩ = some (.slice bA bn bc) := HX11.out.cell 3; have v4 : w11.cell? ⟨b11, 4, none⟩ = some (.slice vA vn vc) := HX11.out.cell 4
    obtain ⟨⟨x, kk, o2⟩, hX⟩ : ∃ X, pubS o t1 (⟨addr, status, f, body, vars, ⟨fA, fn, fc⟩, ⟨bA, bn, bc⟩, ⟨vA, vn, vc⟩⟩ : MV).ver = X := ⟨_, rfl⟩
    have HX := zi hX
    have hm11 : (⟨addr, status, f, body, vars, ⟨fA, fn, fc⟩, ⟨bA, bn, bc⟩, ⟨vA, vn, vc⟩⟩ : MV).At (fun _ => False) w11 := HAk.out.m.ext hP11.ext
    have HPu := zi (pub_v hP11.org hm11 (v := (⟨addr, status, f, body, vars, ⟨fA, fn, fc⟩, ⟨bA, bn, bc⟩, ⟨vA, vn, vc⟩⟩ : MV).ver) rfl HSz.out hX (HGp.out _ hP11.ext).1)
    simp only [MV.cells, Sl.v] at HPu
    have hkk : kk < 1000 := by have h9 := pub_num o t1 (⟨addr, status, f, body, vars, ⟨fA, fn, fc⟩, ⟨bA, bn, bc⟩, ⟨vA, vn, vc⟩⟩ : MV).ver; rw [hX] at h9; exact h9
    go_wp2_with fail
    refine HPu.out.mono ?_; rintro e w12 ⟨rfl, R2, ⟨M2, hO2⟩, hk2, h12, h22⟩
    clear a0 a1 v0 v1 v2 v3 v4
    have HP12 := zi (hP11.prog hO2 hk2 h12 h22 (fun i h1 h2 => .inl ⟨h1, h2⟩))
    have hB8 := hB11.keep hk2 (fun hr => by have := hR8 _ hr; omega)
    have HV12 := zi (HX11.out.keep hk2 (fun hr => hR11 _ hr rfl))
    have v0 : w12.cell? ⟨b11, 0, none⟩ = some (.string addr) := HV12.out.cell 0; have v1 : w12.cell? ⟨b11, 1, none⟩ = some (.int .i64 status) := HV12.out.cell 1; have v2 : w12.cell? ⟨b11, 2, none⟩ = some (.slice fA fn fc) := HV12.out.cell 2; have v3 : w12.cell? ⟨b11, 3, none⟩ = some (.slice bA bn bc) := HV12.out.cell 3; have v4 : w12.cell? ⟨b11, 4, none⟩ = some (.slice vA vn vc) := HV12.out.cell 4
    have hP12 := HP12.out
    have a1 : w12.cell? ⟨b8, 1, none⟩ = some (.int .i64 t1) := hB8.cell 1
    have g0 : w12.cell? ⟨b6, 0, none⟩ = some (.slice iA im ic) := hP12.c6.cell 0; have g1 : w12.cell? ⟨b6, 1, none⟩ = some (.slice uA un uc) := hP12.c6.cell 1; have g2 : w12.cell? ⟨b6, 2, none⟩ = some (.slice lA ln lc) := hP12.c6.cell 2
    go_upto_region 26 with fail
    have HM := zi (law_Publish _ _ _ o t1 ⟨addr, status, f, body, vars, ⟨fA, fn, fc⟩, ⟨bA, bn, bc⟩, ⟨vA, vn, vc⟩⟩ w12 hP12.st ((HAk.out.m.more (Q' := fun i => w.heap.size ≤ i) (fun i hi => .inr hi)).ext hP12.ext) Hle.out.1 HSz.out (by show addr.size ≤ _; omega) (HGp.out _ hP12.ext).1)
    rw [show pubS o t1 (⟨addr, status, f, body, vars, ⟨fA, fn, fc⟩, ⟨bA, bn, bc⟩, ⟨vA, vn, vc⟩⟩ : MV).ver = (x, kk, o2) from HX.out] at HM
    simp only [SM.cells, MV.cells, Sl.v] at HM
    go_wp2_with fail
    refine HM.out.mono ?_; rintro e w13 ⟨⟨⟨iA2, im2, ic2⟩, ⟨uA2, un2, uc2⟩, ⟨lA2, ln2, lc2⟩, mv2, ks2⟩, rfl, hbr2, hs2, hb13⟩
    clear a1 g0 g1 g2 v0 v1 v2 v3 v4
    have HC6 := zi (hP12.c6.ext hb13)
    simp only [SM.cells, Sl.v] at HC6
    go_wp2_with (first | (refine wpList_storeB rfl 74 (.tmp 6) (.tmp 113) rfl rfl b6 _ rfl rfl 74 _ HC6.out infoStM rfl (by simp [Value.oneCell']) ?_; intro w14 hB14 hX14))
    refine (base_Num kk hkk w14).mono ?_; rintro e w15 ⟨rfl, hb15⟩
    have hpo := pub_len o t1 (⟨addr, status, f, body, vars, ⟨fA, fn, fc⟩, ⟨bA, bn, bc⟩, ⟨vA, vn, vc⟩⟩ : MV).ver
    rw [show pubS o t1 (⟨addr, status, f, body, vars, ⟨fA, fn, fc⟩, ⟨bA, bn, bc⟩, ⟨vA, vn, vc⟩⟩ : MV).ver = (x, kk, o2) from HX.out] at hpo
    have hP15 := (hP12.model hs2 (fun i hi h1 h2 => ⟨⟨hi, h1⟩, h2⟩) hbr2 hpo.2.1 hb13 hB14 hX14).next hb15
    go_wp2_with fail
    first | go_roundw | refine ⟨?rel, ?measure⟩
    case rel => exact ⟨k + 1, by omega, by go_num, _, _, _, _, by rw [HSt.out, show pubS o t1 (⟨addr, status, f, body, vars, ⟨fA, fn, fc⟩, ⟨bA, bn, bc⟩, ⟨vA, vn, vc⟩⟩ : MV).ver = (x, kk, o2) from HX.out]; exact hP15⟩
    case measure => simp [intOf]; omega
   | 1, _ =>
    have HSt := zi (show playS (l.take (k + 1)) = (pubS o t1 (goneV addr)).2.2 from HSt.out)
    have hP := HP.out
    have a0 : w8.cell? ⟨b8, 0, none⟩ = some (.int .u8 kd) := HB.out.cell 0; have a1 : w8.cell? ⟨b8, 1, none⟩ = some (.int .i64 t1) := HB.out.cell 1; have a2 : w8.cell? ⟨b8, 2, none⟩ = some (.int .i64 t2) := HB.out.cell 2; have a3 : w8.cell? ⟨b8, 3, none⟩ = some (.string addr) := HB.out.cell 3; have a4 : w8.cell? ⟨b8, 4, none⟩ = some (.int .i64 status) := HB.out.cell 4; have a5 : w8.cell? ⟨b8, 5, none⟩ = some (.slice fA fn fc) := HB.out.cell 5; have a6 : w8.cell? ⟨b8, 6, none⟩ = some (.slice bA bn bc) := HB.out.cell 6; have a7 : w8.cell? ⟨b8, 7, none⟩ = some (.slice vA vn vc) := HB.out.cell 7; have a8 : w8.cell? ⟨b8, 8, none⟩ = some (.string me) := HB.out.cell 8; have a9 : w8.cell? ⟨b8, 9, none⟩ = some (.string ta) := HB.out.cell 9; have a10 : w8.cell? ⟨b8, 10, none⟩ = some (.slice rA rn rc) := HB.out.cell 10
    have hq0 : (kd : Int) % 4 = 1 := hq
    clear hq
    have HX11 := zi (Blk.new w8 36 #[.string addr, .int .i64 status, .slice fA fn fc, .slice bA bn bc, .slice vA vn vc])
    have hE11 := (Ext.refl w8).alloc (.cells #[.string addr, .int .i64 status, .slice fA fn fc, .slice bA bn bc, .slice vA vn vc] 36)
    go_upto_region 22 with fail
    clear a0 a1 a2 a3 a4 a5 a6 a7 a8 a9 a10
    generalize w8.alloc (.cells #[.string addr, .int .i64 status, .slice fA fn fc, .slice bA bn bc, .slice vA vn vc] 36) = w11 at *
    have h811 : w8.heap.size < w11.heap.size := HX11.out.lt
    have hb11 : b8 ≠ w8.heap.size := by omega
    have hR11 : ∀ i, R i → i ≠ w8.heap.size := fun i hi => by have := hR8 i hi; omega
    have hst8 := hP.st.more (Q' := fun i => QS R w b6 ⟨⟨iA, im, ic⟩, ⟨uA, un, uc⟩, ⟨lA, ln, lc⟩, mv, ks⟩ i ∨ i = w8.heap.size) (fun i hi => hi.imp id (fun e => by omega))
    replace hP := hP.wideQ
    have hQ8 : (fun i => Q i ∨ w8.heap.size ≤ i) w8.heap.size := .inr (Nat.le_refl _)
    have hOw8 : ∀ g, (Value.slice uA un uc).ownBlock = some g → g < w8.heap.size := fun g hg => (hP.own.lt g hg).2
    have hwb8 : w.heap.size < w8.heap.size := hP.c3.lt
    have hst11 := hst8.ext hE11
    have hB6n : b6 < w8.heap.size := hP.c6.lt
    generalize w8.heap.size = b11 at *
    have hP11 := hP.next hE11
    have hB11 := HB.out.ext hE11
    have a0 : w11.cell? ⟨b8, 0, none⟩ = some (.int .u8 kd) := hB11.cell 0; have a1 : w11.cell? ⟨b8, 1, none⟩ = some (.int .i64 t1) := hB11.cell 1
    have v0 : w11.cell? ⟨b11, 0, none⟩ = some (.string addr) := HX11.out.cell 0; have v1 : w11.cell? ⟨b11, 1, none⟩ = some (.int .i64 status) := HX11.out.cell 1; have v2 : w11.cell? ⟨b11, 2, none⟩ = some (.slice fA fn fc) := HX11.out.cell 2; have v3 : w11.cell? ⟨b11, 3, none⟩ = some (.slice bA bn bc) := HX11.out.cell 3; have v4 : w11.cell? ⟨b11, 4, none⟩ = some (.slice vA vn vc) := HX11.out.cell 4
    obtain ⟨⟨x, kk, o2⟩, hX⟩ : ∃ X, pubS o t1 (goneV addr) = X := ⟨_, rfl⟩
    have HX := zi hX
    have HPu := zi (or_Withdraw hP11.org (text := addr) (by omega) hX (HGp.out _ hP11.ext).1)
    have hkk : kk < 1000 := by have h9 := pub_num o t1 (goneV addr); rw [hX] at h9; exact h9
    go_wp2_with fail
    refine HPu.out.mono ?_; rintro e w12 ⟨rfl, R2, ⟨M2, hO2⟩, hk2, h12, h22⟩
    clear a0 a1 v0 v1 v2 v3 v4
    have hP12 := hP11.prog hO2 hk2 h12 h22 (fun i h1 h2 => .inl ⟨h1, h2⟩)
    have hR2 : ¬ R2 b11 := fun hr => (h22 b11 hr).elim (fun hr => hR11 _ hr rfl) (fun hl => by omega)
    have hst12 := (hst11.more (Q' := fun i => QS R2 w b6 ⟨⟨iA, im, ic⟩, ⟨uA, un, uc⟩, ⟨lA, ln, lc⟩, mv, ks⟩ i ∨ i = b11) (fun i hi => by
     rcases hi with ((hi | hi) | hi) | hi
     ·exact (h22 i hi).imp (fun e => .inl (.inl (.inl e))) id
     ·exact .inl (.inl (.inl (.inr hi)))
     ·exact .inl (.inl (.inr hi))
     ·exact .inl (.inr hi))).keep hk2 (fun i hi => .inl (.inl (.inl (.inl (h12 i hi)))))
    have hB8 := hB11.keep hk2 (fun hr => by have := hR8 _ hr; omega)
    have HV12 := zi (HX11.out.keep hk2 (fun hr => hR11 _ hr rfl))
    have v0 : w12.cell? ⟨b11, 0, none⟩ = some (.string addr) := HV12.out.cell 0
    go_wp2_with fail
    refine (law_Gone addr w12).mono ?_; rintro e w13 ⟨gm, rfl, hgv, hgm, hbg⟩
    clear v0
    have hlt12 : b11 < w12.heap.size := HV12.out.lt
    obtain ⟨ga, gst, gf, gbd, gvs, ⟨gfA, gfn, gfc⟩, ⟨gbA, gbn, gbc⟩, ⟨gvA, gvn, gvc⟩⟩ := gm
    simp only [MV.cells, Sl.v]
    have HV13 := zi (HV12.out.ext hbg)
    have hga : addr = ga := (congrArg Ver.addr hgv).symm
    subst hga
    go_upto_region 26 with (first | (refine wpList_storeB rfl 36 (.tmp 11) (.tmp 98) rfl rfl b11 _ rfl rfl 36 _ HV13.out infoVe rfl (by simp [Value.oneCell']) ?_; intro w14 hB14v hX14v))
    have HVf := zi hB14v
    have hP14 := (hP12.next hbg).far (hst12.ext hbg) hX14v hR2 (.inl ⟨.inr (Nat.le_refl _), by omega⟩) (by omega) (by omega) (fun e => by have := hOw8 _ e; omega) (by omega)
    have hB814 := (hB8.ext hbg).grown hX14v (by simp; omega)
    have hgm14 := hgm.keep (Keeps.grown (Keeps.refl (fun i => i = b11) w13) hX14v (fun b hb => .inl (by injection hb with hb; exact hb.symm))) (fun i hi => .inl (by rw [show i = b11 from hi]; exact hlt12))
    clear hB14v
    have v0 : w14.cell? ⟨b11, 0, none⟩ = some (.string addr) := HVf.out.cell 0; have v1 : w14.cell? ⟨b11, 1, none⟩ = some (.int .i64 gst) := HVf.out.cell 1; have v2 : w14.cell? ⟨b11, 2, none⟩ = some (.slice gfA gfn gfc) := HVf.out.cell 2; have v3 : w14.cell? ⟨b11, 3, none⟩ = some (.slice gbA gbn gbc) := HVf.out.cell 3; have v4 : w14.cell? ⟨b11, 4, none⟩ = some (.slice gvA gvn gvc) := HVf.out.cell 4
    have hzq := hP12.qlt
    clear hP12 HP
    have HP12 := zi hP14
    generalize hww : w12.heap.size = z12 at *
    clear hww
    have hP12 := HP12.out
    have a1 : w14.cell? ⟨b8, 1, none⟩ = some (.int .i64 t1) := hB814.cell 1
    have g0 : w14.cell? ⟨b6, 0, none⟩ = some (.slice iA im ic) := hP12.c6.cell 0; have g1 : w14.cell? ⟨b6, 1, none⟩ = some (.slice uA un uc) := hP12.c6.cell 1; have g2 : w14.cell? ⟨b6, 2, none⟩ = some (.slice lA ln lc) := hP12.c6.cell 2
    go_upto_region 26 with fail
    have HM := zi (law_Publish _ _ _ o t1 ⟨addr, gst, gf, gbd, gvs, ⟨gfA, gfn, gfc⟩, ⟨gbA, gbn, gbc⟩, ⟨gvA, gvn, gvc⟩⟩ w14 hP12.st hgm14 Hle.out.1 (by rw [hgv]; exact gone_sz (by omega)) (by show addr.size ≤ _; omega) (HGp.out _ hP12.ext).1)
    rw [hgv, HX.out] at HM
    simp only [SM.cells, MV.cells, Sl.v] at HM
    go_wp2_with fail
    refine HM.out.mono ?_; rintro e w13 ⟨⟨⟨iA2, im2, ic2⟩, ⟨uA2, un2, uc2⟩, ⟨lA2, ln2, lc2⟩, mv2, ks2⟩, rfl, hbr2, hs2, hb13⟩
    clear a1 g0 g1 g2 v0 v1 v2 v3 v4 hgv hgm hgm14 hst8 hst11 hst12 hP14 hQ8 hOw8 hR2 hbg hlt12
    have HC6 := zi (hP12.c6.ext hb13)
    simp only [SM.cells, Sl.v] at HC6
    go_wp2_with (first | (refine wpList_storeB rfl 74 (.tmp 6) (.tmp 113) rfl rfl b6 _ rfl rfl 74 _ HC6.out infoStM rfl (by simp [Value.oneCell']) ?_; intro w16 hB16 hX16))
    refine (base_Num kk hkk w16).mono ?_; rintro e w15 ⟨rfl, hb15⟩
    have hpo := pub_len o t1 (goneV addr)
    rw [show pubS o t1 (goneV addr) = (x, kk, o2) from HX.out] at hpo
    have hP15 := (hP12.model hs2 (fun i hi h1 h2 => ⟨⟨hi, hzq i hi⟩, h2⟩) hbr2 hpo.2.1 hb13 hB16 hX16).next hb15
    go_wp2_with fail
    first | go_roundw | refine ⟨?rel, ?measure⟩
    case rel => exact ⟨k + 1, by omega, by go_num, _, _, _, _, by rw [HSt.out, show pubS o t1 (goneV addr) = (x, kk, o2) from HX.out]; exact hP15⟩
    case measure => simp [intOf]; omega
   | 2, _ =>
    have HSn := zi (show playS (l.take (k + 1)) = (if cl55 t2 < cl55 t1 then o else { o with br := o.br ++ [(cl55 t1, cl55 t2)] }) from HSt.out)
    have hP := HP.out
    have a0 : w8.cell? ⟨b8, 0, none⟩ = some (.int .u8 kd) := HB.out.cell 0; have a1 : w8.cell? ⟨b8, 1, none⟩ = some (.int .i64 t1) := HB.out.cell 1; have a2 : w8.cell? ⟨b8, 2, none⟩ = some (.int .i64 t2) := HB.out.cell 2
    have hq0 : (kd : Int) % 4 = 2 := hq
    clear hq
    go_wp2_with fail
    refine (or_Broken t1 t2 hP.org Hle.out.2.1).mono ?_; rintro e w12 (⟨hlt2, rfl, hw⟩ | ⟨hge, rfl, R2, ⟨M2, hO2⟩, hk2, h12, h22⟩)
    ·have hw := hw.symm; subst hw
     have hd : decide (cl55 t2 < cl55 t1) = true := decide_eq_true hlt2
     go_upto_region 31 with fail
     have hL := (Ext.refl w8).drew
     refine wp_region_held_drew (S := (fun w' => w'.cell? ⟨b8, 1, none⟩ = some (.int .i64 t1) ∧ w'.cell? ⟨b8, 2, none⟩ = some (.int .i64 t2))) (by kernel_rfl) ?_ (fun hHeld => ?_)
     ·(try dsimp only); exact ⟨a1, a2⟩
     refine zH (v := ?_) 0 (some 135) rfl ?_ ?_; rotate_left
     ·(intro w hSw; (try dsimp only at hSw); go_simp; (try with_reducible rfl))
     try simp only [zP]
     refine zH (v := ?_) 1 (some 136) rfl ?_ ?_; rotate_left
     ·(intro w hSw; (try dsimp only at hSw); go_simp; (try with_reducible rfl))
     try simp only [zP]
     refine zH (v := ?_) 3 (some 138) rfl ?_ ?_; rotate_left
     ·(intro w hSw; (try dsimp only at hSw); go_simp; (try with_reducible rfl))
     try simp only [zP]
     refine zH (v := ?_) 4 (some 139) rfl ?_ ?_; rotate_left
     ·(intro w hSw; (try dsimp only at hSw); go_simp; (try with_reducible rfl))
     try simp only [zP]
     refine wpAnyH_ready (rs := [2]) (by kernel_rfl) (by simp) ?_
     refine AllReadyH.cons (o := ⟨some 137, _, _, _, _, _⟩) rfl (fun K hK => ?_) AllReadyH.nil
     go_simp
     refine (HT.out t1 _).mono ?_; rintro e wa ⟨rfl, hwa⟩; subst hwa
     try go_wp2_with fail
     refine hK.out _ _ ?_ (fun hHeld => ?_)
     ·(try dsimp only); exact ⟨a1, a2⟩
     clear hK K
     try simp only [zP]
     refine wpAnyH_ready (rs := [5]) (by kernel_rfl) (by simp) ?_
     refine AllReadyH.cons (o := ⟨some 140, _, _, _, _, _⟩) rfl (fun K hK => ?_) AllReadyH.nil
     go_simp
     refine (HT.out t2 _).mono ?_; rintro e wa ⟨rfl, hwa⟩; subst hwa
     try go_wp2_with fail
     refine hK.out _ _ ?_ (fun hHeld => ?_)
     ·(try dsimp only); exact ⟨a1, a2⟩
     clear hK K
     try simp only [zP]
     refine zH (v := ?_) 6 (some 141) rfl ?_ ?_; rotate_left
     ·(intro w hSw; (try dsimp only at hSw); go_simp; (try with_reducible rfl))
     try simp only [zP]
     refine wpAnyH_done (by kernel_rfl) ?_ _
     (try rw [hd])
     have HI := base_Is 7 7 (by decide) (by decide) (by decide) w8.drew
     rw [show errV 7 = .iface 63 (.int .i64 7) from rfl] at HI
     go_wp2_with fail
     refine HI.mono ?_; rintro e wb ⟨rfl, hbb⟩
     simp only [decide_true]
     go_wp2_with fail
     first | go_roundw | refine ⟨?rel, ?measure⟩
     case rel => exact ⟨k + 1, by omega, by go_num, _, _, _, _, by rw [HSn.out, if_pos hlt2]; exact (hP.next hL).next hbb⟩
     case measure => simp [intOf]; omega
    ·have hP12 := hP.prog hO2 hk2 h12 h22 (fun i h1 h2 => .inl h1)
     have hB8 := zi (HB.out.keep hk2 (fun hr => by have := hR8 _ hr; omega))
     clear a0 a1 a2
     have a1 : w12.cell? ⟨b8, 1, none⟩ = some (.int .i64 t1) := hB8.out.cell 1; have a2 : w12.cell? ⟨b8, 2, none⟩ = some (.int .i64 t2) := hB8.out.cell 2
     have hd : decide (cl55 t2 < cl55 t1) = false := decide_eq_false (by omega)
     have hun := hP12.brd.2
     change un = o.br.length at hun
     subst hun
     have HP12 := zi hP12
     clear hP12 hO2 hk2
     go_upto_region 31 with fail
     have hL := (Ext.refl w12).drew
     refine wp_region_held_drew (S := (fun w' => w'.cell? ⟨b8, 1, none⟩ = some (.int .i64 t1) ∧ w'.cell? ⟨b8, 2, none⟩ = some (.int .i64 t2))) (by kernel_rfl) ?_ (fun hHeld => ?_)
     ·(try dsimp only); exact ⟨a1, a2⟩
     refine zH (v := ?_) 0 (some 135) rfl ?_ ?_; rotate_left
     ·(intro w hSw; (try dsimp only at hSw); go_simp; (try with_reducible rfl))
     try simp only [zP]
     refine zH (v := ?_) 1 (some 136) rfl ?_ ?_; rotate_left
     ·(intro w hSw; (try dsimp only at hSw); go_simp; (try with_reducible rfl))
     try simp only [zP]
     refine zH (v := ?_) 3 (some 138) rfl ?_ ?_; rotate_left
     ·(intro w hSw; (try dsimp only at hSw); go_simp; (try with_reducible rfl))
     try simp only [zP]
     refine zH (v := ?_) 4 (some 139) rfl ?_ ?_; rotate_left
     ·(intro w hSw; (try dsimp only at hSw); go_simp; (try with_reducible rfl))
     try simp only [zP]
     refine wpAnyH_ready (rs := [2]) (by kernel_rfl) (by simp) ?_
     refine AllReadyH.cons (o := ⟨some 137, _, _, _, _, _⟩) rfl (fun K hK => ?_) AllReadyH.nil
     go_simp
     refine (HT.out t1 _).mono ?_; rintro e wa ⟨rfl, hwa⟩; subst hwa
     try go_wp2_with fail
     refine hK.out _ _ ?_ (fun hHeld => ?_)
     ·(try dsimp only); exact ⟨a1, a2⟩
     clear hK K
     try simp only [zP]
     refine wpAnyH_ready (rs := [5]) (by kernel_rfl) (by simp) ?_
     refine AllReadyH.cons (o := ⟨some 140, _, _, _, _, _⟩) rfl (fun K hK => ?_) AllReadyH.nil
     go_simp
     refine (HT.out t2 _).mono ?_; rintro e wa ⟨rfl, hwa⟩; subst hwa
     try go_wp2_with fail
     refine hK.out _ _ ?_ (fun hHeld => ?_)
     ·(try dsimp only); exact ⟨a1, a2⟩
     clear hK K
     try simp only [zP]
     refine zH (v := ?_) 6 (some 141) rfl ?_ ?_; rotate_left
     ·(intro w hSw; (try dsimp only at hSw); go_simp; (try with_reducible rfl))
     try simp only [zP]
     refine wpAnyH_done (by kernel_rfl) ?_ _
     (try rw [hd])
     have HP13 := zi (HP12.out.next hL)
     have HB13 := zi (hB8.out.ext hL)
     clear a1 a2
     obtain ⟨w13, hw13⟩ : ∃ w13, w12.drew = w13 := ⟨_, rfl⟩
     rw [hw13] at HP13 HB13 ⊢
     clear hL
     have HC36 := zi (fun w' (hx : Ext w13 w') => (⟨(HB13.out.ext hx).cell 1, (HB13.out.ext hx).cell 2, (HP13.out.c6.ext hx).cell 1⟩ : w'.cell? ⟨b8, 1, none⟩ = some (.int .i64 t1) ∧ w'.cell? ⟨b8, 2, none⟩ = some (.int .i64 t2) ∧ w'.cell? ⟨b6, 1, none⟩ = some (.slice uA o.br.length uc)))
     go_upto_region 36 with fail
     have hL := (Ext.refl w13).drew
     refine wp_region_U (S := (fun w' => w'.cell? ⟨b8, 1, none⟩ = some (.int .i64 t1) ∧ w'.cell? ⟨b8, 2, none⟩ = some (.int .i64 t2) ∧ w'.cell? ⟨b6, 1, none⟩ = some (.slice uA o.br.length uc))) 12 (by kernel_rfl) ?_ (fun hHeld => ?_)
     ·(try dsimp only); exact HC36.out _ hL
     refine wpAnyU_takeW (i := 0) (oi := ⟨some 151, _, _, _, _, _⟩) (v := ?_) (by kernel_rfl) rfl (by kernel_rfl) (by kernel_rfl) (by kernel_rfl) (fun _ _ _ h => h) (Or.inl ⟨by rfl, ?_⟩) (by assumption) ?_
     rotate_left
     ·(intro w hSw; (try dsimp only at hSw); go_simp; (try with_reducible rfl))
     try simp only [zP]
     refine wpAnyU_take (i := 1) (oi := ⟨some 152, _, _, _, _, _⟩) (v := ?_) [10, 11, 12] (by kernel_rfl) (by kernel_rfl) (by kernel_rfl) (by kernel_rfl) rfl (by kernel_rfl) (by kernel_rfl) (by kernel_rfl) (fun _ _ _ h => h) (Or.inl ⟨by rfl, ?_⟩) (by assumption) ?_
     rotate_left
     ·(intro w hSw; (try dsimp only at hSw); go_simp; (try with_reducible rfl))
     try simp only [zP]
     refine wpAnyU_takeW (i := 2) (oi := ⟨some 153, _, _, _, _, _⟩) (v := ?_) (by kernel_rfl) rfl (by kernel_rfl) (by kernel_rfl) (by kernel_rfl) (fun _ _ _ h => h) (Or.inl ⟨by rfl, ?_⟩) (by assumption) ?_
     rotate_left
     ·(intro w hSw; (try dsimp only at hSw); go_simp; (try with_reducible rfl))
     try simp only [zP]
     refine wpAnyU_take (i := 3) (oi := ⟨some 154, _, _, _, _, _⟩) (v := ?_) [4, 7, 8, 9, 10, 11, 12] (by kernel_rfl) (by kernel_rfl) (by kernel_rfl) (by kernel_rfl) rfl (by kernel_rfl) (by kernel_rfl) (by kernel_rfl) (fun _ _ _ h => h) (Or.inl ⟨by rfl, ?_⟩) (by assumption) ?_
     rotate_left
     ·(intro w hSw; (try dsimp only at hSw); go_simp; (try with_reducible rfl))
     try simp only [zP]
     refine wpAnyU_takeW (i := 5) (oi := ⟨some 156, _, _, _, _, _⟩) (v := ?_) (by kernel_rfl) rfl (by kernel_rfl) (by kernel_rfl) (by kernel_rfl) (fun _ _ _ h => h) (Or.inl ⟨by rfl, ?_⟩) (by assumption) ?_
     rotate_left
     ·(intro w hSw; (try dsimp only at hSw); go_simp; (try with_reducible rfl))
     try simp only [zP]
     refine wpAnyU_take (i := 6) (oi := ⟨some 157, _, _, _, _, _⟩) (v := ?_) [7, 8, 9, 10, 11, 12] (by kernel_rfl) (by kernel_rfl) (by kernel_rfl) (by kernel_rfl) rfl (by kernel_rfl) (by kernel_rfl) (by kernel_rfl) (fun _ _ _ h => h) (Or.inl ⟨by rfl, ?_⟩) (by assumption) ?_
     rotate_left
     ·(intro w hSw; (try dsimp only at hSw); go_simp; (try with_reducible rfl))
     try simp only [zP]
     refine wpAnyU_ready (rs := [4]) (by kernel_rfl) (by simp) ?_
     refine AllReadyU.cons (o := ⟨some 155, _, _, _, _, _⟩) rfl (fun K hK => ?_) AllReadyU.nil
     go_simp
     refine (HT.out t1 _).mono ?_; rintro e wa ⟨rfl, hwa⟩; subst hwa
     try go_wp2_with fail
     refine hK.out _ _ ?_ (fun hHeld => ?_)
     ·(try dsimp only); exact HC36.out _ hL
     clear hK K
     try simp only [zP]
     refine wpAnyU_ready (rs := [7]) (by kernel_rfl) (by simp) ?_
     refine AllReadyU.cons (o := ⟨some 158, _, _, _, _, _⟩) rfl (fun K hK => ?_) AllReadyU.nil
     go_simp
     refine (HT.out t2 _).mono ?_; rintro e wa ⟨rfl, hwa⟩; subst hwa
     try go_wp2_with fail
     refine hK.out _ _ ?_ (fun hHeld => ?_)
     ·(try dsimp only); exact HC36.out _ hL
     clear hK K
     try simp only [zP]
     refine wpAnyU_takeW (i := 8) (oi := ⟨some 159, _, _, _, _, _⟩) (v := ?_) (by kernel_rfl) rfl (by kernel_rfl) (by kernel_rfl) (by kernel_rfl) (fun _ _ _ h => h) (Or.inl ⟨by rfl, ?_⟩) (by assumption) ?_
     rotate_left
     ·(intro w hSw; (try dsimp only at hSw); go_simp; (try with_reducible rfl))
     try simp only [zP]
     refine wpAnyU_ready (rs := [9]) (by kernel_rfl) (by simp) ?_
     refine AllReadyU.cons (o := ⟨some 160, _, _, _, _, _⟩) rfl (fun K hK => ?_) AllReadyU.nil
     go_simp
     have hL := hL.alloc (.cells #[.int .i64 (cl55 t1), .int .i64 (cl55 t2)] 65)
     try go_wp2_with fail
     refine hK.out _ _ ?_ (fun hHeld => ?_)
     ·(try dsimp only); exact HC36.out _ hL
     clear hK K
     try simp only [zP]
     refine wpAnyU_ready (rs := [10]) (by kernel_rfl) (by simp) ?_
     refine AllReadyU.cons (o := ⟨some 161, _, _, _, _, _⟩) rfl (fun K hK => ?_) AllReadyU.nil
     refine step_appO _ rfl (.tmp 152) (.tmp 160) 71 rfl 65 _ 2 16 Tryz.underlying71 clip_info2 (by simp [Value.cells]) (by decide) _ _ _ rfl (own_ext HP13.out.own hL) _ 1 1 (spnC (cl55 t1, cl55 t2)) rfl (Rd.lit _ _ _ rfl 2 1 rfl) (by intro u hu; simp [spnC] at hu; rcases hu with rfl | rfl <;> rfl) (by have := Hle.out.2.1; omega) (by decide) ?_; intro A6 c6 w15 hown hle6 hg6 hn6; have hPx := HP13.out.next hL; have hBx := hPx.c6.grown hg6 (fun e => (hPx.off b6 e.symm).1 (.inr (.inl rfl))); have hBy := (HB13.out.ext hL).grown hg6 (fun e => by have h9 : b8 < b8 := HOb.out b8 e.symm; omega)
     refine hK.out _ _ ?_ (fun hHeld => ?_)
     ·(try dsimp only); exact ⟨hBy.cell 1, hBy.cell 2, hBx.cell 1⟩
     clear hK K
     try simp only [zP]
     refine wpAnyU_takeW (i := 11) (oi := ⟨some 162, _, _, _, _, _⟩) (v := ?_) (by kernel_rfl) rfl (by kernel_rfl) (by kernel_rfl) (by kernel_rfl) (fun _ _ _ h => h) (Or.inl ⟨by rfl, ?_⟩) (by assumption) ?_
     rotate_left
     ·(intro w hSw; (try dsimp only at hSw); go_simp; (try with_reducible rfl))
     try simp only [zP]
     refine wpAnyU_ready (rs := [12]) (by kernel_rfl) (by simp) ?_
     refine AllReadyU.stop (o := ⟨none, _, _, _, _, _⟩) rfl (by kernel_rfl) (fun K hK => ?_) AllReadyU.nil
     have kb := hBx.cell 1; have fb := hBx.frozen 1; simp only [SM.cells, Sl.v, List.getElem?_toArray, List.getElem?_cons_succ, List.getElem?_cons_zero] at kb
     go_simp
     try go_wp2_with fail
     refine hK.out _ _ ?_ (fun hHeld => ?_)
     ·(try dsimp only); (try trivial)
     clear hK K
     try simp only [zP]
     refine wpAnyH_done (by kernel_rfl) ?_ _
     have hPf := hPx.broken (x := (cl55 t1, cl55 t2)) hown hle6 hg6 hn6
     clear kb fb
     go_wp2_with fail
     first | go_roundw | refine ⟨?rel, ?measure⟩
     case rel => exact ⟨k + 1, by omega, by go_num, _, _, _, _, by rw [HSn.out, if_neg (by omega)]; exact hPf⟩
     case measure => simp [intOf]; omega
   | 3, _ =>
    have HSn := zi (show playS (l.take (k + 1)) = (if chkS rf = 0 then (answS o t1 ⟨me, ta, rf⟩).2.2.2 else o) from HSt.out)
    have hP := HP.out
    have a0 : w8.cell? ⟨b8, 0, none⟩ = some (.int .u8 kd) := HB.out.cell 0; have a10 : w8.cell? ⟨b8, 10, none⟩ = some (.slice rA rn rc) := HB.out.cell 10
    have hq0 : (kd : Int) % 4 = 3 := hq
    clear hq
    have hrl : rf.length = rn := HAk.out.r.rd.lenF
    have hbz := bszF rf
    have HRd := zi (fun w' (hx : Ext w w') => (show RdF w' rA rn rf from HAk.out.r.rd.ext hx))
    have hrc : rn ≤ rc := HAk.out.r.cap
    go_wp2_with fail
    refine (field_Check rA rn rc rf w8 (HRd.out _ hP.ext) (by omega) (fun f hf => ⟨by have := (hbz f hf).1; omega, by have := (hbz f hf).2; omega⟩)).mono ?_; rintro e w12 ⟨rfl, hb12⟩
    clear a0 a10
    by_cases hck : chkS rf = 0
    rotate_left
    ·rcases errV_eq0 (chkS rf) with ⟨h0, h1⟩ | ⟨h0, h1⟩
     ·exact absurd h0 hck
     ·rw [h1]
      go_wp2_with fail
      first | go_roundw | refine ⟨?rel, ?measure⟩
      case rel => exact ⟨k + 1, by omega, by go_num, _, _, _, _, by rw [HSn.out, if_neg hck]; exact hP.next hb12⟩
      case measure => simp [intOf]; omega
    rw [hck, show errV 0 = .nilIface from rfl]
    have HSm := zi (HSn.out.trans (if_pos hck))
    have hP12 := hP.next hb12
    have hB12 := HB.out.ext hb12
    have a1 : w12.cell? ⟨b8, 1, none⟩ = some (.int .i64 t1) := hB12.cell 1; have a8 : w12.cell? ⟨b8, 8, none⟩ = some (.string me) := hB12.cell 8; have a9 : w12.cell? ⟨b8, 9, none⟩ = some (.string ta) := hB12.cell 9; have a10 : w12.cell? ⟨b8, 10, none⟩ = some (.slice rA rn rc) := hB12.cell 10
    have HAn := zi (fun (Q' : Nat → Prop) w' (h1 : SM.At Q' w' ⟨⟨iA, im, ic⟩, ⟨uA, un, uc⟩, ⟨lA, ln, lc⟩, mv, ks⟩ o) (h2 : Rd w' 2 uA un (o.br.flatMap spnC)) (hx : Ext w w') => law_Answer Q' ⟨⟨iA, im, ic⟩, ⟨uA, un, uc⟩, ⟨lA, ln, lc⟩, mv, ks⟩ o t1 ⟨me, ta, rf⟩ rA rn rc w' h1 h2 (HRd.out _ hx) (by show sumF rf + 2 * rn ≤ _; omega) (by show ta.size ≤ _; omega) Hle.out.2.1 Hle.out.1 Hle.out.2.2 (fun x hx2 => (hP12.org.bd x hx2).1) (HGp.out _ hx).1 (HGp.out _ hx).2.1 (HGp.out _ hx).2.2)
    have HPr := zi (or_Answer Q R p o M t1 ⟨me, ta, rf⟩ rA rn rc w12 hP12.org (HRd.out _ hP12.ext) hrc (by show sumF rf + 2 * rn ≤ _; omega) (by show ta.size ≤ _; omega) Hle.out.2.1 Hle.out.2.2 (HGp.out _ hP12.ext).1 (HGp.out _ hP12.ext).2.1 (HGp.out _ hP12.ext).2.2)
    have hfz := (ans_sz (o := o) (t := t1) (r := ⟨me, ta, rf⟩) (fun x hx2 => (hP12.org.bd x hx2).1)).1
    simp only [SM.cells, Sl.v] at HAn HPr
    have hob2 : (answS o t1 ⟨me, ta, rf⟩).2.2.2.br = o.br := rfl
    clear hbz
    generalize answS o t1 ⟨me, ta, rf⟩ = AW at *
    obtain ⟨st, fsX, bdX, o2⟩ := AW
    simp only at HAn HPr hfz hob2
    have HSo := zi (show playS (l.take (k + 1)) = o2 from HSm.out)
    have hb612 : b6 < w12.heap.size := hP12.c6.lt
    have hb812 : b8 < w12.heap.size := hB12.lt
    go_wp2_with fail
    refine HPr.out.mono ?_; rintro e w13 ⟨⟨s1A, s1n, s1c⟩, ⟨s2A, s2n, s2c⟩, rfl, R2, ⟨M2, hO2⟩, hs1, hs2, hk2, h12, h22⟩
    clear a1 a8 a9 a10
    have hP13 := hP12.prog hO2 hk2 h12 h22 (fun i h1 h2 => .inl h1)
    have hle13 := hk2.size
    have hB13 := hB12.keep hk2 (fun hr => by have := hR8 _ hr; omega)
    have hR2 : ∀ i, w13.heap.size ≤ i → ¬ R2 i := fun i hi hr => by have := hP13.org.low i hr; omega
    have hsz : (w13.alloc (.cells #[.int .i64 st, .slice s1A s1n s1c] 38)).heap.size = w13.heap.size + 1 := by simp
    have hX15 := ((Ext.refl w13).alloc (.cells #[.int .i64 st, .slice s1A s1n s1c] 38)).alloc (.cells #[.int .i64 0, .slice none 0 0] 38)
    have HB15 := zi ((Blk.new w13 38 #[.int .i64 st, .slice s1A s1n s1c]).alloc (.cells #[.int .i64 0, .slice none 0 0] 38))
    have hB17 := Blk.new (w13.alloc (.cells #[.int .i64 st, .slice s1A s1n s1c] 38)) 38 #[.int .i64 0, .slice none 0 0]
    rw [hsz] at hB17
    have HB17 := zi hB17
    have HST := zi ((hP13.st.more (Q' := fun i => QS R2 w b6 ⟨⟨iA, im, ic⟩, ⟨uA, un, uc⟩, ⟨lA, ln, lc⟩, mv, ks⟩ i ∨ i = w13.heap.size + 1) (fun i hi => hi.imp id (fun e => by omega))).ext hX15)
    have hP15 := hP13.wideQ.next hX15
    have HF1 := zi ((hs1.more (Q' := fun i => i = b6 ∨ i = w13.heap.size + 1) (fun i hi => hi.elim (fun e => .inl (.inl (by omega))) (fun e => .inr (by omega)))).ext hX15)
    have HD1 := zi ((hs2.more (Q' := fun i => i = b6 ∨ i = w13.heap.size + 1) (fun i hi => hi.elim (fun e => .inl (.inl (by omega))) (fun e => .inr (by omega)))).ext hX15)
    have HB8 := zi (hB13.ext hX15)
    have hQ17 : (fun i => (Q i ∨ w12.heap.size ≤ i) ∨ w13.heap.size ≤ i) (w13.heap.size + 1) := .inr (by omega)
    have hR17 := hR2 (w13.heap.size + 1) (by omega)
    have hlo17 : b6 ≠ w13.heap.size + 1 ∧ b8 ≠ w13.heap.size + 1 ∧ w.heap.size ≠ w13.heap.size + 1 ∧ w.heap.size ≤ w13.heap.size + 1 := by have := hk2.size; have := hP13.c3.lt; omega
    have hO17 : (Value.slice uA un uc).ownBlock ≠ some (w13.heap.size + 1) := fun e => by have := (hP13.own.lt _ e).2; omega
    have hl15 : w13.heap.size + 1 < ((w13.alloc (.cells #[.int .i64 st, .slice s1A s1n s1c] 38)).alloc (.cells #[.int .i64 0, .slice none 0 0] 38)).heap.size := by simp
    go_upto_region 14 with fail
    (try rw [hsz])
    clear hP13 hO2 hs1 hs2 hk2 hsz hX15 hB17 hB13 hP12 hB12 hR2 HPr
    generalize ((w13.alloc (.cells #[.int .i64 st, .slice s1A s1n s1c] 38)).alloc (.cells #[.int .i64 0, .slice none 0 0] 38)) = w15 at *
    generalize hb15 : w13.heap.size + 1 = b17 at *
    generalize w13.heap.size = b15 at *
    have HP15 := zi hP15
    clear hP15
    have g0 : w15.cell? ⟨b6, 0, none⟩ = some (.slice iA im ic) := HP15.out.c6.cell 0; have g1 : w15.cell? ⟨b6, 1, none⟩ = some (.slice uA un uc) := HP15.out.c6.cell 1; have g2 : w15.cell? ⟨b6, 2, none⟩ = some (.slice lA ln lc) := HP15.out.c6.cell 2
    have a1 : w15.cell? ⟨b8, 1, none⟩ = some (.int .i64 t1) := HB8.out.cell 1; have a8 : w15.cell? ⟨b8, 8, none⟩ = some (.string me) := HB8.out.cell 8; have a9 : w15.cell? ⟨b8, 9, none⟩ = some (.string ta) := HB8.out.cell 9; have a10 : w15.cell? ⟨b8, 10, none⟩ = some (.slice rA rn rc) := HB8.out.cell 10
    go_wp2_with fail
    refine (HAn.out _ w15 HST.out HP15.out.brd.1 HP15.out.ext).mono ?_; rintro e w16 ⟨⟨⟨iA2, im2, ic2⟩, ⟨uA2, un2, uc2⟩, ⟨lA2, ln2, lc2⟩, mv2, ks2⟩, ⟨t1A, t1n, t1c⟩, ⟨t2A, t2n, t2c⟩, rfl, hbr2, hs3, hf3, hd3, hb16⟩
    clear g0 g1 g2 a1 a8 a9 a10
    have HC6 := zi (HP15.out.c6.ext hb16)
    simp only [SM.cells, Sl.v] at HC6 ⊢
    go_upto_region 15 with (first | (refine wpList_storeB rfl 74 (.tmp 6) (.tmp 54) rfl rfl b6 _ rfl rfl 74 _ HC6.out infoStM rfl (by simp [Value.oneCell']) ?_; intro w17 hB17s hX17) | (refine wpList_storeB rfl 38 (.tmp 17) (.tmp 55) rfl rfl b17 _ rfl rfl 38 _ ((HB17.out.ext hb16).grown hX17 (by simp; omega)) infoRsp rfl (by simp [Value.oneCell']) ?_; intro w18 hB18s hX18))
    have hK67 : Keeps (fun i => i = b6 ∨ i = b17) w16 w18 := Keeps.grown (Keeps.grown (Keeps.refl _ w16) hX17 (fun b hb => .inl (.inl (by injection hb with hb; exact hb.symm)))) hX18 (fun b hb => .inl (.inr (by injection hb with hb; exact hb.symm)))
    have HF1e := zi ((HF1.out.ext hb16).keep hK67 (fun i hi => .inl hi)); have HD1e := zi ((HD1.out.ext hb16).keep hK67 (fun i hi => .inl hi))
    have HF3e := zi (hf3.keep hK67 (fun i hi => .inl (by have := HP15.out.c6.lt; show i < _; omega))); have HD3e := zi (hd3.keep hK67 (fun i hi => .inl (by have := HP15.out.c6.lt; show i < _; omega)))
    have HB15e := zi (((HB15.out.ext hb16).grown hX17 (by simp; omega)).grown hX18 (by simp; omega))
    have hP17 := HP15.out.model hs3 (fun i hi h1 h2 => ⟨.inl hi, h2⟩) hbr2 hob2 hb16 hB17s hX17
    have hst17 : SM.At (fun i => QS R2 w b6 ⟨⟨iA2, im2, ic2⟩, ⟨uA2, un2, uc2⟩, ⟨lA2, ln2, lc2⟩, mv2, ks2⟩ i ∨ i = b17) w17 ⟨⟨iA2, im2, ic2⟩, ⟨uA2, un2, uc2⟩, ⟨lA2, ln2, lc2⟩, mv2, ks2⟩ o2 := by
     have hqq := HP15.out.qlt
     have hbr3 : (⟨uA2, un2, uc2⟩ : Sl) = ⟨uA, un, uc⟩ := hbr2
     obtain ⟨rfl, rfl, rfl⟩ := Sl.mk.inj hbr3
     exact (hs3.sub (fun i hi => ⟨hi, hi.elim (fun e => hqq i e) (fun e => by omega)⟩)).keep (Keeps.grown (Keeps.refl (fun i => i = b6) w16) hX17 (fun b hb => .inl (by injection hb with hb; exact hb.symm))) (fun i hi => .inl (.inl (.inl (.inr (.inl hi)))))
    have hP18 := hP17.far hst17 hX18 hR17 hQ17 hlo17.1 hlo17.2.2.1 (by have hbr3 : (⟨uA2, un2, uc2⟩ : Sl) = ⟨uA, un, uc⟩ := hbr2; obtain ⟨rfl, rfl, rfl⟩ := Sl.mk.inj hbr3; exact hO17) hlo17.2.2.2
    have HP18 := zi hP18
    have hB18 := hB18s
    clear hP17 hst17 hP18 hB18s hB17s hK67 HC6 hs3 hf3 hd3 hQ17 hR17 hO17
    have z0 : w18.cell? ⟨b15, 0, none⟩ = some (.int .i64 st) := HB15e.out.cell 0; have z1x : w18.cell? ⟨b15, 1, none⟩ = some (.slice s1A s1n s1c) := HB15e.out.cell 1
    have y0 : w18.cell? ⟨b17, 0, none⟩ = some (.int .i64 st) := hB18.cell 0; have y1 : w18.cell? ⟨b17, 1, none⟩ = some (.slice t1A t1n t1c) := hB18.cell 1
    have hl1 : fsX.length = s1n := HF1e.out.rd.lenF
    have hl3 : fsX.length = t1n := HF3e.out.rd.lenF
    obtain rfl : s1n = t1n := by omega
    have qs : (st != st) = false := by simp
    go_wp2_with fail
    refine (law_FieldsE s1A t1A s1n s1c t1c fsX w18 HF1e.out.rd HF3e.out.rd (by omega)).mono ?_; rintro e w19 ⟨rfl, hb19⟩
    go_wp2_with fail
    refine (base_Bytes s2A s2n s2c t2A t2n t2c bdX bdX w19 (HD1e.out.rd.ext hb19) (HD3e.out.rd.ext hb19)).mono ?_; rintro e w20 ⟨rfl, hw20⟩; have hw20 := hw20.symm; subst hw20
    simp only [decide_true]
    clear z0 z1x y0 y1
    go_wp2_with fail
    first | go_roundw | refine ⟨?rel, ?measure⟩
    case rel => exact ⟨k + 1, by omega, by go_num, _, _, _, _, by rw [HSo.out]; exact HP18.out.next hb19⟩
    case measure => simp [intOf]; omega
  ·obtain rfl : k = n := by omega
   rw [show l.take k = l by rw [← Hl.out, List.take_length]] at hP
   obtain ⟨⟨iA, im, ic⟩, ⟨uA, un, uc⟩, ⟨lA, ln, lc⟩, mv, ks⟩ := s
   have HPe := zi (hP.next (Ext.refl wr).drew)
   have hC6 := HPe.out.c6
   have g0 : wr.cell? ⟨b6, 0, none⟩ = some (.slice iA im ic) := hC6.cell 0; have g1 : wr.cell? ⟨b6, 1, none⟩ = some (.slice uA un uc) := hC6.cell 1; have g2 : wr.cell? ⟨b6, 2, none⟩ = some (.slice lA ln lc) := hC6.cell 2
   have hne : b6 ≠ w.heap.size := by have := HPe.out.lt; omega
   clear hP
   go_upto_region 38 with fail
   refine wp_region_held_drew (S := (fun w' => w'.cell? ⟨b6, 0, none⟩ = some (.slice iA im ic) ∧ w'.cell? ⟨b6, 1, none⟩ = some (.slice uA un uc) ∧ w'.cell? ⟨b6, 2, none⟩ = some (.slice lA ln lc))) (by kernel_rfl) ?_ (fun hHeld => ?_)
   ·(try dsimp only); exact ⟨g0, g1, g2⟩
   refine zH (v := ?_) 0 (some 164) rfl ?_ ?_; rotate_left
   ·(intro w hSw; (try dsimp only at hSw); go_simp; (try with_reducible rfl))
   try simp only [zP]
   refine zH (v := ?_) 1 (some 165) rfl ?_ ?_; rotate_left
   ·(intro w hSw; (try dsimp only at hSw); go_simp; (try with_reducible rfl))
   try simp only [zP]
   refine zH (v := ?_) 2 (some 2) rfl ?_ ?_; rotate_left
   ·(intro w hSw; (try dsimp only at hSw); go_simp; (try with_reducible rfl))
   try simp only [zP]
   refine wpAnyH_ready (rs := [3]) (by kernel_rfl) (by simp) ?_
   refine AllReadyH.cons (o := ⟨none, _, _, _, _, _⟩) rfl (fun K hK => ?_) AllReadyH.nil
   refine step_storeB rfl 74 (.tmp 3) (.tmp 165) rfl rfl w.heap.size _ rfl rfl 74 _ HPe.out.c3 infoStM rfl (by simp [Value.oneCell']) ?_; intro w9 hB9 hX9; have hC9 := hC6.grown hX9 (by simp; omega)
   refine hK.out _ _ ?_ (fun hHeld => ?_)
   ·(try dsimp only); exact ⟨hC9.cell 0, hC9.cell 1, hC9.cell 2⟩
   clear hK K
   try simp only [zP]
   refine zH (v := ?_) 4 (some 4) rfl ?_ ?_; rotate_left
   ·(intro w hSw; (try dsimp only at hSw); go_simp; (try with_reducible rfl))
   try simp only [zP]
   refine wpAnyH_done (by kernel_rfl) ?_ _
   have q0 := hB9.cell 0; have q1 := hB9.cell 1; have q2 := hB9.cell 2
   simp only [List.getElem?_toArray, List.getElem?_cons_succ, List.getElem?_cons_zero] at q0 q1 q2
   go_wp2_with fail
   exact bodyPost_ret (v := .tuple #[.pointer (some ⟨p, 0, none⟩), .agg #[.slice iA im ic, .slice uA un uc, .slice lA ln lc], .bool true]) (by simp [results, Tryz.results30, go_sem, q0, q1, q2]) rfl ⟨p, R, Q, M, ⟨⟨iA, im, ic⟩, ⟨uA, un, uc⟩, ⟨lA, ln, lc⟩, mv, ks⟩, rfl, HPe.out.done hX9⟩
end Go.Proofs.YtmckbcbdnckngaaGreatDoor

namespace Go.Proofs.YtmckbcbdnckngaaGreatDoor
open Go.ChangeShapes Go.WideShapes Go.Deep Go.RowKit

def TwoStr (P : Program) (e S : TypeId) : Prop := ∃ f0 f1, P.underlying e = some (.struct #[f0, f1]) ∧ f0.type = S ∧ f1.type = S ∧ f0.offset = 0 ∧ f1.offset = 1 ∧ P.underlying S = some .string ∧ P.cellsOf S = 1 ∧ P.cellsOf e = 2

section
variable {H : Type} {enc : TypeId × Value → H} {P : Program} {w : World} {base : Nat} {spare : Nat → Bool} {held : Bool}

theorem trod_twoStr {e S : TypeId} {fuel : Nat} {cs : List Value} {x : DataW H × List MemPlace} (he : TwoStr P e S) (h : DataW.trod enc P w base spare held fuel e cs = some x) :
  ∃ a b : ByteArray, cs = [.string a, .string b] ∧ x.1 = .agg [.lit (.string a.data.toList), .lit (.string b.data.toList)] ∧ a.size ≤ maxLen ∧ b.size ≤ maxLen := by
 obtain ⟨f0, f1, hu, t0, t1, o0, o1, hS, hc, hce⟩ := he
 obtain ⟨y0, y1, n, rfl, hl, h0, h1⟩ := trod_struct2 hu h
 rw [t0, o0, hc] at h0
 rw [t1, o1, hc] at h1
 rw [hce] at hl
 match cs, hl with
 | [c0, c1], _ =>
  simp only [List.drop_zero, List.take_succ_cons, List.take_zero] at h0
  simp only [List.drop_succ_cons, List.drop_zero, List.take_succ_cons, List.take_zero] at h1
  obtain ⟨a, ha, rfl, ha2⟩ := DataW.trod_string hS h0
  obtain ⟨b, hb, rfl, hb2⟩ := DataW.trod_string hS h1
  simp only [List.cons.injEq, and_true] at ha hb
  subst ha; subst hb
  exact ⟨a, b, rfl, rfl, ha2, hb2⟩

theorem sz_data (a : ByteArray) : a.data.toList.length = a.size := by rw [Array.length_toList]; rfl

theorem weightsAll_mem {e : TypeId} {n : Nat} : ∀ {l : List (DataW H)} {i : Nat} {d : DataW H}, l[i]? = some d → n ∈ d.weights P e → n ∈ DataW.weightsAll P e l
 | d0 :: l, 0, d, hd, hn => by
  simp only [List.getElem?_cons_zero, Option.some.injEq] at hd
  subst hd
  simp only [DataW.weightsAll, List.mem_append]
  exact Or.inl hn
 | d0 :: l, i + 1, d, hd, hn => by
  simp only [List.getElem?_cons_succ] at hd
  simp only [DataW.weightsAll, List.mem_append]
  exact Or.inr (weightsAll_mem hd hn)
 | [], _, _, hd, _ => by simp at hd

end

theorem weights_one {H : Type} {P : Program} {ts : List TypeId} {ds : List (DataW H)} (h : (DataW.weightsEach P ts ds).all (· ≤ reachBytes) = true) {j : Nat} {t : TypeId} {d : DataW H}
  (ht : ts[j]? = some t) (hd : ds[j]? = some d) : ∀ x ∈ d.weights P t, x ≤ 140737488351232 := fun x hx => by
 have := List.all_eq_true.1 h _ (DataW.weights_mem_each ht hd x hx)
 exact of_decide_eq_true this
end Go.Proofs.YtmckbcbdnckngaaGreatDoor

namespace Go.Proofs.YtmckbcbdnckngaaGreatDoor
open Go.ChangeShapes Go.WideShapes Go.Deep Go.RowKit

theorem bulk_strs {H : Type} (l : List ByteArray) : Rows.uptoBulkAll (H := H) (l.map fun s => DataW.lit (.string s.data.toList)) = l.length + totS l := by
 induction l with
 | nil => rfl
 | cons x l ih =>
  simp only [List.map_cons, Rows.uptoBulkAll, ih, Rows.uptoBulk, List.length_cons, totS, List.sum_cons, Array.length_toList]
  show x.size + 1 + _ = _
  omega
theorem bulk_flds {H : Type} (l : List Fd) : Rows.uptoBulkAll (H := H) (l.map fun f => DataW.agg [.lit (.string f.1.data.toList), .lit (.string f.2.data.toList)]) = 3 * l.length + sumF l := by
 induction l with
 | nil => rfl
 | cons x l ih =>
  simp only [List.map_cons, Rows.uptoBulkAll, ih, Rows.uptoBulk, List.length_cons, sumF, List.sum_cons, Array.length_toList]
  show (x.1.size + 1) + ((x.2.size + 1) + 0) + 1 + _ = _
  omega
theorem bulk_of {H : Type} {l : List (DataW H)} (hk : Rows.uptoSmall H l = true) : Rows.uptoBulkAll l ≤ 1048576 := of_decide_eq_true hk

section
variable {H : Type} {enc : TypeId × Value → H} {P : Program} {w : World} {base : Nat} {spare : Nat → Bool} {held : Bool}
theorem open_strsL {t e : TypeId} {A : Option Addr} {n c : Nat} {d : DataW H} {p : List MemPlace} (ht : P.underlying t = some (.slice e)) (he : P.underlying e = some .string) (hce : P.cellsOf e = 1)
  (h : DataW.Trod enc P w base spare held t (.slice A n c) d p) :
  ∃ L : List ByteArray, RdS w A n L ∧ n ≤ maxLen ∧ n ≤ c ∧ L.length + totS L + 1 ≤ Rows.uptoBulk d := by
 obtain ⟨fuel, hf⟩ := h
 have hf' : DataW.trod enc P w base spare held fuel t [.slice A n c] = some (d, p) := by simpa [Value.cells] using hf
 rcases open_strings ht he hce hf' with ⟨hcs, hx⟩ | ⟨a, len, cap, ss, hcs, hb, hl, hm, hlen, hx, hi⟩
 ·simp only [List.cons.injEq, Value.slice.injEq, and_true] at hcs
  obtain ⟨rfl, rfl, rfl⟩ := hcs
  obtain rfl : d = .nil := congrArg Prod.fst hx
  exact ⟨[], Rd.none_ _ _ _, by simp [maxLen], Nat.le_refl _, by simp [totS, Rows.uptoBulk]⟩
 ·simp only [List.cons.injEq, Value.slice.injEq, and_true] at hcs
  obtain ⟨rfl, rfl, rfl⟩ := hcs
  have hnl : n ≤ ss.length := by rw [hlen]; split <;> omega
  have htl : (ss.take n).length = n := by rw [List.length_take]; omega
  refine ⟨ss.take n, ⟨by simp; omega, fun hpos => ?_⟩, by omega, hl, ?_⟩
  ·obtain ⟨b, o, sp⟩ := a
   have h0 : 0 < ss.length := by
    rw [List.length_map, htl] at hpos; omega
   have hc0 := hi.1 0 h0
   have hsp : sp = none := by simpa [Addr.add] using World.cell?_spot hc0
   subst hsp
   refine ⟨b, o, rfl, fun j u hu => ?_⟩
   rw [List.getElem?_map, List.getElem?_take] at hu
   split at hu
   ·rename_i hjn
    obtain ⟨s, hs, rfl⟩ := Option.map_eq_some_iff.1 hu
    obtain ⟨hjl, he⟩ := List.getElem?_eq_some_iff.1 hs
    have := hi.1 j hjl
    rw [add_plain, List.getD_eq_getElem?_getD, hs] at this
    exact this
   ·simp at hu
  ·obtain rfl : d = _ := congrArg Prod.fst hx
   simp only [Rows.uptoBulk]
   have := bulk_strs (H := H) (ss.take n)
   unfold strs
   omega
end

theorem witU {H : Type} {enc : TypeId × Value → H} {C : Checked} {os : Os} {f : FuncId} {fn : Func} {s : OpenSpec} {conds : List PathCond} {apart : Bool} {laid : List (String × DataW Unit)} (args : Array Value)
  (hv : ((World.laidAll C.prog os laid).forCall (fun _ _ => 0) ⟨#[], args, []⟩).variablesZipB C.prog = true)
  (hr : (((World.laidAll C.prog os laid).forCall (fun _ _ => 0) ⟨#[], args, []⟩).heap.toList.drop C.prog.globals.size).take ((begin C.prog (fun _ _ => 0) default).world.heap.size - C.prog.globals.size) =
   (begin C.prog (fun _ _ => 0) default).world.heap.toList.drop C.prog.globals.size)
  (hok : Input.okWideB C.prog ((World.laidAll C.prog os laid).forCall (fun _ _ => 0) ⟨#[], args, []⟩) f ⟨#[], args, []⟩ = true)
  (hrow : s.preRow enc C.prog fn conds apart laid ((World.laidAll C.prog os laid).forCall (fun _ _ => 0) ⟨#[], args, []⟩).memory args) :
  ∃ (w : World) (tape : Tape) (i : Input), w.os = os ∧ (w.forCall tape i).Shaped C.prog ∧ i.vars = [] ∧ Input.okWide C.prog (w.forCall tape i) .any w.heap.size f i ∧
   s.preRow enc C.prog fn conds apart laid (w.forCall tape i).memory i.args ∧ ({} : Assume).holds C.prog (lone (Frame.enter C.prog f i.args .normal) [] (w.forCall tape i)) :=
 ⟨World.laidAll C.prog os laid, fun _ _ => 0, ⟨#[], args, []⟩, World.laidAll_os _ _ _, World.shaped_of_ZipB hv hr, (Input.okWide_of_okWideB (base := 0) hok).1, (Input.okWide_of_okWideB hok).2, hrow, by
  simp only [Assume.holds]
  exact ⟨by simp, by simp, fun _ => Modest.zero, by simp, by simp⟩⟩
end Go.Proofs.YtmckbcbdnckngaaGreatDoor

namespace Go.Proofs.YtmckbcbdnckngaaGreatDoor
open Go.ChangeShapes Go.WideShapes Go.Deep Go.RowKit

section
variable {H : Type} {enc : TypeId × Value → H} {P : Program} {w : World} {base : Nat} {spare : Nat → Bool} {held : Bool}
theorem open_fldsU {t e S : TypeId} {A : Option Addr} {n c : Nat} {d : DataW H} {p : List MemPlace} (ht : P.underlying t = some (.slice e)) (he : TwoStr P e S)
  (h : DataW.Trod enc P w base spare held t (.slice A n c) d p) :
  ∃ L : List Fd, RdF w A n L ∧ n ≤ maxLen ∧ n ≤ c ∧ 3 * L.length + sumF L + 1 ≤ Rows.uptoBulk d := by
 obtain ⟨fuel, hf⟩ := h
 have hf' : DataW.trod enc P w base spare held fuel t [.slice A n c] = some (d, p) := by simpa [Value.cells] using hf
 rcases open_slice ht hf' with ⟨hcs, hx⟩ | ⟨a, len, cap, m, k, D, Pl, hcs, hb, hl, hm, hmm, hx, hi⟩
 ·simp only [List.cons.injEq, Value.slice.injEq, and_true] at hcs
  obtain ⟨rfl, rfl, rfl⟩ := hcs
  exact ⟨[], Rd.none_ _ _ _, by simp [maxLen], Nat.le_refl _, by obtain rfl : d = .nil := congrArg Prod.fst hx; simp [sumF, Rows.uptoBulk]⟩
 ·simp only [List.cons.injEq, Value.slice.injEq, and_true] at hcs
  obtain ⟨rfl, rfl, rfl⟩ := hcs
  obtain ⟨f0, f1, hu, t0, t1, o0, o1, hS, hc, hce⟩ := id he
  rw [hce] at hi
  have hnm : n ≤ m := by rw [hmm]; split <;> omega
  obtain ⟨F, hF⟩ := choose_lt (α := Fd) (n := m) (p := fun i f => w.cell? (a.add (i * 2)) = some (.string f.1) ∧ w.cell? (a.add (i * 2 + 1)) = some (.string f.2) ∧ D i = .agg [.lit (.string f.1.data.toList), .lit (.string f.2.data.toList)]) (fun i him => by
   obtain ⟨cs', h1, h2⟩ := hi i him
   obtain ⟨_, _, hat⟩ := World.cells?_some h1
   obtain ⟨u, v, rfl, hd, _, _⟩ := trod_twoStr he h2
   have c0 := hat 0 (by omega)
   have c1 := hat 1 (by omega)
   rw [Go.Deep.add_add] at c0 c1
   exact ⟨(u, v), by simpa using c0, by simpa using c1, hd⟩)
  have hlen : ((List.range n).map F).length = n := by simp
  refine ⟨(List.range n).map F, ⟨by rw [fldCells_len, hlen], fun hpos => ?_⟩, by omega, hl, ?_⟩
  ·have hn0 : 0 < n := by rw [fldCells_len, hlen] at hpos; omega
   obtain ⟨b, o, sp⟩ := a
   have hsp : sp = none := by simpa [Addr.add] using World.cell?_spot (hF 0 (by omega)).1
   subst hsp
   refine ⟨b, o, rfl, fun j u hj => ?_⟩
   have hjl : j < n * 2 := by
    have := (List.getElem?_eq_some_iff.1 hj).1
    rw [fldCells_len, hlen] at this; exact this
   have hlt : j / 2 < ((List.range n).map F).length := by rw [hlen]; omega
   have hcells := hF (j / 2) (by omega)
   rw [add_plain, add_plain] at hcells
   have hFe : ((List.range n).map F)[j / 2] = F (j / 2) := by simp
   rcases Nat.mod_two_eq_zero_or_one j with h0 | h1
   ·have e : j = j / 2 * 2 := by omega
    rw [e, fldCells_at0 _ _ hlt, hFe] at hj
    rw [e, ← hj]
    have e2 : j / 2 * 2 / 2 = j / 2 := by omega
    exact hcells.1
   ·have e : j = j / 2 * 2 + 1 := by omega
    rw [e, fldCells_at1 _ _ hlt, hFe] at hj
    rw [e, ← hj]
    exact hcells.2.1
  ·have hx1 : d = DataW.slice ((List.range n).map D) ((List.range (m - n)).map fun j => D (n + j)) := congrArg Prod.fst hx
   have hm2 : (List.range n).map D = ((List.range n).map F).map fun f => DataW.agg [.lit (.string f.1.data.toList), .lit (.string f.2.data.toList)] := by
    rw [List.map_map]
    exact List.map_congr_left fun i hi => (hF i (by have := List.mem_range.1 hi; omega)).2.2
   rw [hx1, hm2]
   simp only [Rows.uptoBulk]
   have := bulk_flds (H := H) ((List.range n).map F)
   omega
end
end Go.Proofs.YtmckbcbdnckngaaGreatDoor

namespace Go.Proofs.YtmckbcbdnckngaaGreatDoor
open Go.ChangeShapes Go.WideShapes Go.RowKit Go.Deep Go.Joins
section
variable {H : Type} {enc : TypeId × Value → H} {P : Program} {w : World} {base : Nat} {spare : Nat → Bool} {held : Bool}

theorem open_slT {α : Type} [Inhabited α] {t e : TypeId} (ht : P.underlying t = some (.slice e)) {k : Nat} (hk : P.cellsOf e = k) (hk0 : 0 < k) (f : α → List Value) (hfl : ∀ a, (f a).length = k) (Pr : α → DataW H → Prop)
  (hel : ∀ fuel cs x, DataW.trod enc P w base spare held fuel e cs = some x → ∃ a, cs = f a ∧ Pr a x.1) {fuel : Nat} {cs : List Value} {x : DataW H × List MemPlace} (h : DataW.trod enc P w base spare held fuel t cs = some x) :
  ∃ (A : Option Addr) (n c : Nat) (L : List (α × DataW H)), cs = [.slice A n c] ∧ Rd w k A n ((L.map (·.1)).flatMap f) ∧ n ≤ maxLen ∧ n ≤ c ∧ L.length = n ∧ (∀ y ∈ L, Pr y.1 y.2) ∧ Rows.uptoBulkAll (L.map (·.2)) + 1 ≤ Rows.uptoBulk x.1 ∧
   (∀ B, (∀ z ∈ x.1.weights P t, z ≤ B) → ∀ y ∈ L, ∀ z ∈ y.2.weights P e, z ≤ B) := by
 rcases open_slice ht h with ⟨hcs, rfl⟩ | ⟨a, len, cap, m, q, D, Pl, hcs, hb, hl, hm, hmm, rfl, hi⟩
 ·exact ⟨none, 0, 0, [], hcs, Rd.none_ _ _ _, Nat.zero_le _, Nat.le_refl _, rfl, fun y hy => (by cases hy), by simp [Rows.uptoBulkAll, Rows.uptoBulk], fun B _ y hy => (by cases hy)⟩
 ·rw [hk] at hi
  have hnm : len ≤ m := by rw [hmm]; split <;> omega
  obtain ⟨F, hF⟩ := choose_lt (α := α) (n := m) (p := fun i a' => (∀ j u, (f a')[j]? = some u → w.cell? ((a.add (i * k)).add j) = some u) ∧ Pr a' (D i)) (fun i him => by
   obtain ⟨cs', h1, h2⟩ := hi i him
   obtain ⟨_, hlen, hat⟩ := World.cells?_some h1
   obtain ⟨a', rfl, hd⟩ := hel _ _ _ h2
   refine ⟨a', fun j u hu => ?_, hd⟩
   have hj : j < k := by
    have := (List.getElem?_eq_some_iff.1 hu).1
    rw [hfl] at this; exact this
   have := hat j hj
   rw [this, hu])
  have hlen : ((List.range len).map fun i => (F i, D i)).length = len := by simp
  have hmp : ((List.range len).map fun i => (F i, D i)).map (·.1) = (List.range len).map F := by simp [Function.comp_def]
  have hfl2 : (((List.range len).map F).flatMap f).length = len * k := by
   have : ∀ l : List α, (l.flatMap f).length = l.length * k := by
    intro l
    induction l with
    | nil => simp
    | cons x l ih => rw [List.flatMap_cons, List.length_append, ih, hfl, List.length_cons, Nat.succ_mul]; omega
   rw [this]; simp
  refine ⟨some a, len, cap, (List.range len).map fun i => (F i, D i), hcs, ⟨by rw [hmp, hfl2], fun hpos => ?_⟩, by omega, hl, hlen, fun y hy => ?_, ?_, fun B hB y hy => ?_⟩
  ·rw [hmp] at hpos ⊢
   have hn0 : 0 < len := by rw [hfl2] at hpos; exact Nat.pos_of_mul_pos_right hpos
   have h00 : (f (F 0))[0]? = some ((f (F 0))[0]'(by rw [hfl]; exact hk0)) := List.getElem?_eq_getElem _
   obtain ⟨b, o, sp⟩ := a
   have hsp : sp = none := by simpa [Addr.add] using World.cell?_spot ((hF 0 (by omega)).1 0 _ h00)
   subst hsp
   refine ⟨b, o, rfl, fun j u hj => ?_⟩
   have hjl : j < len * k := by
    have := (List.getElem?_eq_some_iff.1 hj).1
    rw [hfl2] at this; exact this
   have hq : j / k < len := (Nat.div_lt_iff_lt_mul hk0).2 hjl
   have hjd : j = j / k * k + j % k := by rw [Nat.mul_comm]; exact (Nat.div_add_mod j k).symm
   have hfa := flat_at f k hfl ((List.range len).map F) (j / k) (j % k) (by simpa using hq) (Nat.mod_lt _ hk0)
   rw [← hjd] at hfa
   rw [hfa] at hj
   simp only [List.getElem_map, List.getElem_range] at hj
   have := (hF (j / k) (by omega)).1 (j % k) u hj
   rw [Go.Deep.add_add, ← hjd, add_plain] at this
   exact this
  ·simp only [List.mem_map, List.mem_range] at hy
   obtain ⟨i, hin, rfl⟩ := hy
   exact (hF i (by omega)).2
  ·rw [show ((List.range len).map fun i => (F i, D i)).map (·.2) = (List.range len).map D by simp [Function.comp_def]]
   simp only [Rows.uptoBulk]
   omega
  ·simp only [List.mem_map, List.mem_range] at hy
   obtain ⟨i, hin, rfl⟩ := hy
   intro z hz
   refine hB z ?_
   simp only [DataW.weights, ht, List.mem_cons, List.mem_append]
   exact Or.inr (Or.inl (weightsAll_mem (i := i) (by simp [hin]) hz))
theorem flat_one {α : Type} (g : α → Value) (l : List α) : l.flatMap (fun a => [g a]) = l.map g := by
 induction l with
 | nil => rfl
 | cons x l ih => rw [List.flatMap_cons, ih]; rfl
theorem u8_of_wf {x : Int} (h : (Lit.int .u8 x).wf = true) : 0 ≤ x ∧ x ≤ 255 := by
 simp [Lit.wf] at h
 have e1 : IntKind.u8.min = 0 := rfl
 have e2 : IntKind.u8.max = 255 := rfl
 omega
theorem u8_byte {x : Int} (h : (Lit.int .u8 x).wf = true) : ∃ c : UInt8, x = (c.toNat : Nat) := by
 obtain ⟨h0, h1⟩ := u8_of_wf h
 refine ⟨UInt8.ofNat x.toNat, ?_⟩
 rw [UInt8.toNat_ofNat']
 omega
theorem bulk_ge {l : List (DataW H)} : l.length ≤ Rows.uptoBulkAll l := by
 induction l with
 | nil => simp
 | cons x l ih =>
  have : 1 ≤ Rows.uptoBulk x := by
   cases x with
   | lit v => cases v <;> simp [Rows.uptoBulk]
   | _ => simp [Rows.uptoBulk]
  simp only [Rows.uptoBulkAll, List.length_cons]; omega
theorem open_bytT {t e : TypeId} (ht : P.underlying t = some (.slice e)) (he : P.underlying e = some (.int .u8)) (hk : P.cellsOf e = 1) {fuel : Nat} {cs : List Value} {x : DataW H × List MemPlace} (h : DataW.trod enc P w base spare held fuel t cs = some x) :
  ∃ (b : ByteArray) (s : Sl), cs = [s.v] ∧ RS (fun _ => False) w 1 s (bytC b) ∧ s.n ≤ maxLen ∧ b.size + 1 ≤ Rows.uptoBulk x.1 := by
 obtain ⟨A, n, c, L, hcs, hr, hm, hc, hl, -, hb, -⟩ := open_slT (α := UInt8) ht hk (by decide) (fun c => [.int .u8 c.toNat]) (fun _ => rfl) (fun _ _ => True) (fun fuel cs x hx => by
  obtain ⟨v, e0, d0, f0⟩ := DataW.trod_int he hx
  obtain ⟨c, rfl⟩ := u8_byte f0
  exact ⟨c, e0, trivial⟩) h
 have hz : L.length ≤ Rows.uptoBulkAll (L.map (·.2)) := by simpa using bulk_ge (l := L.map (·.2))
 refine ⟨⟨(L.map (·.1)).toArray⟩, ⟨A, n, c⟩, hcs, ⟨?_, fun _ _ _ hf => hf, hc⟩, hm, ?_⟩
 ·rw [flat_one] at hr; exact hr
 ·show (L.map (·.1)).toArray.size + 1 ≤ _
  simp; omega
end
end Go.Proofs.YtmckbcbdnckngaaGreatDoor

namespace Go.Proofs.YtmckbcbdnckngaaGreatDoor
open Go.ChangeShapes Go.WideShapes Go.RowKit Go.Deep Go.Joins
section
variable {H : Type} {enc : TypeId × Value → H} {w : World} {base : Nat} {spare : Nat → Bool} {held : Bool}
theorem c_slice {P : Program} {t e : TypeId} {fuel : Nat} {cs : List Value} {x : DataW H × List MemPlace} (ht : P.underlying t = some (.slice e)) (h : DataW.trod enc P w base spare held fuel t cs = some x) :
  ∃ A n c, cs = [.slice A n c] ∧ DataW.Trod enc P w base spare held t (.slice A n c) x.1 x.2 := by
 rcases open_slice ht h with ⟨rfl, hx⟩ | ⟨a, len, cap, m, k, D, Pl, rfl, hb, hl, hm, hmm, hx, hi⟩
 ·exact ⟨_, _, _, rfl, fuel, by simpa [Value.cells] using h⟩
 ·exact ⟨_, _, _, rfl, fuel, by simpa [Value.cells] using h⟩
theorem open_agg {P : Program} {r : Reach} {b0 : Nat} {t : TypeId} {fs : Array Field} {v : Value} {d : DataW H} {p : List MemPlace} (hs : P.underlying t = some (.struct fs)) (hv : Value.okWide P w r b0 t v) (h : DataW.Trod enc P w base spare held t v d p) :
  ∃ (cs : Array Value) (fuel : Nat), v = .agg cs ∧ DataW.trod enc P w base spare held fuel t cs.toList = some (d, p) := by
 obtain ⟨cs, rfl, hsz⟩ := okWide_struct hs hv
 obtain ⟨fuel, hf⟩ := h
 exact ⟨cs, fuel, rfl, by simpa [Value.cells] using hf⟩
theorem c_Vt {fuel : Nat} {cs : List Value} {x : DataW H × List MemPlace} (h : DataW.trod enc Tryz.prog w base spare held fuel 58 cs = some x) :
  ∃ (x_0A : Option Addr) (x_0n : Nat) (x_0c : Nat) (x_0d : DataW H) (x_0p : List MemPlace) (x_1 : ByteArray) (x_2 : ByteArray) (x_3A : Option Addr) (x_3n : Nat) (x_3c : Nat) (x_3d : DataW H) (x_3p : List MemPlace), cs = [.slice x_0A x_0n x_0c, .string x_1, .string x_2, .slice x_3A x_3n x_3c] ∧ x.1 = .agg [x_0d, .lit (.string x_1.data.toList), .lit (.string x_2.data.toList), x_3d] ∧ (DataW.Trod enc Tryz.prog w base spare held 53 (.slice x_0A x_0n x_0c) x_0d x_0p ∧ x_1.size ≤ maxLen ∧ x_2.size ≤ maxLen ∧ DataW.Trod enc Tryz.prog w base spare held 23 (.slice x_3A x_3n x_3c) x_3d x_3p) := by
 obtain ⟨xs, n, _, rfl, hl, hlen, hf⟩ := DataW.trod_struct Tryz.underlying58 h
 rw [show Tryz.prog.cellsOf 58 = 4 from by kernel_rfl] at hl
 match cs, hl with
 | [c0, c1, c2, c3], _ =>
 have hlen : xs.length = 4 := hlen
 match xs, hlen with
 | [y0, y1, y2, y3], _ =>
  have g0 : DataW.trod enc Tryz.prog w base spare held n 53 (([c0, c1, c2, c3].drop 0).take (Tryz.prog.cellsOf 53)) = [y0, y1, y2, y3][0]? := hf 0 _ rfl
  have g1 : DataW.trod enc Tryz.prog w base spare held n 9 (([c0, c1, c2, c3].drop 1).take (Tryz.prog.cellsOf 9)) = [y0, y1, y2, y3][1]? := hf 1 _ rfl
  have g2 : DataW.trod enc Tryz.prog w base spare held n 9 (([c0, c1, c2, c3].drop 2).take (Tryz.prog.cellsOf 9)) = [y0, y1, y2, y3][2]? := hf 2 _ rfl
  have g3 : DataW.trod enc Tryz.prog w base spare held n 23 (([c0, c1, c2, c3].drop 3).take (Tryz.prog.cellsOf 23)) = [y0, y1, y2, y3][3]? := hf 3 _ rfl
  rw [show Tryz.prog.cellsOf 53 = 1 from by kernel_rfl] at g0
  simp only [List.drop_succ_cons, List.drop_zero, List.take_succ_cons, List.take_zero, List.getElem?_cons_succ, List.getElem?_cons_zero] at g0
  obtain ⟨x_0A, x_0n, x_0c, e0, f0_0⟩ := c_slice Tryz.underlying53 g0
  simp only [List.cons.injEq, and_true] at e0
  subst e0
  rw [show Tryz.prog.cellsOf 9 = 1 from by kernel_rfl] at g1
  simp only [List.drop_succ_cons, List.drop_zero, List.take_succ_cons, List.take_zero, List.getElem?_cons_succ, List.getElem?_cons_zero] at g1
  obtain ⟨x_1, e1, d1, f1_0⟩ := DataW.trod_string Tryz.underlying9 g1
  simp only [List.cons.injEq, and_true] at e1
  subst e1
  rw [show Tryz.prog.cellsOf 9 = 1 from by kernel_rfl] at g2
  simp only [List.drop_succ_cons, List.drop_zero, List.take_succ_cons, List.take_zero, List.getElem?_cons_succ, List.getElem?_cons_zero] at g2
  obtain ⟨x_2, e2, d2, f2_0⟩ := DataW.trod_string Tryz.underlying9 g2
  simp only [List.cons.injEq, and_true] at e2
  subst e2
  rw [show Tryz.prog.cellsOf 23 = 1 from by kernel_rfl] at g3
  simp only [List.drop_succ_cons, List.drop_zero, List.take_succ_cons, List.take_zero, List.getElem?_cons_succ, List.getElem?_cons_zero] at g3
  obtain ⟨x_3A, x_3n, x_3c, e3, f3_0⟩ := c_slice Tryz.underlying23 g3
  simp only [List.cons.injEq, and_true] at e3
  subst e3
  refine ⟨x_0A, x_0n, x_0c, _, _, x_1, x_2, x_3A, x_3n, x_3c, _, _, rfl, ?_, f0_0, f1_0, f2_0, f3_0⟩
  simp only [List.map_cons, List.map_nil, show y1.1 = _ from congrArg Prod.fst d1, show y2.1 = _ from congrArg Prod.fst d2]
theorem c_Ve {fuel : Nat} {cs : List Value} {x : DataW H × List MemPlace} (h : DataW.trod enc Tryz.prog w base spare held fuel 36 cs = some x) :
  ∃ (x_0 : ByteArray) (x_1 : Int) (x_2A : Option Addr) (x_2n : Nat) (x_2c : Nat) (x_2d : DataW H) (x_2p : List MemPlace) (x_3A : Option Addr) (x_3n : Nat) (x_3c : Nat) (x_3d : DataW H) (x_3p : List MemPlace) (x_4A : Option Addr) (x_4n : Nat) (x_4c : Nat) (x_4d : DataW H) (x_4p : List MemPlace), cs = [.string x_0, .int .i64 x_1, .slice x_2A x_2n x_2c, .slice x_3A x_3n x_3c, .slice x_4A x_4n x_4c] ∧ x.1 = .agg [.lit (.string x_0.data.toList), .lit (.int .i64 x_1), x_2d, x_3d, x_4d] ∧ (x_0.size ≤ maxLen ∧ (Lit.int .i64 x_1).wf = true ∧ DataW.Trod enc Tryz.prog w base spare held 33 (.slice x_2A x_2n x_2c) x_2d x_2p ∧ DataW.Trod enc Tryz.prog w base spare held 23 (.slice x_3A x_3n x_3c) x_3d x_3p ∧ DataW.Trod enc Tryz.prog w base spare held 34 (.slice x_4A x_4n x_4c) x_4d x_4p) := by
 obtain ⟨xs, n, _, rfl, hl, hlen, hf⟩ := DataW.trod_struct Tryz.underlying36 h
 rw [show Tryz.prog.cellsOf 36 = 5 from by kernel_rfl] at hl
 match cs, hl with
 | [c0, c1, c2, c3, c4], _ =>
 have hlen : xs.length = 5 := hlen
 match xs, hlen with
 | [y0, y1, y2, y3, y4], _ =>
  have g0 : DataW.trod enc Tryz.prog w base spare held n 9 (([c0, c1, c2, c3, c4].drop 0).take (Tryz.prog.cellsOf 9)) = [y0, y1, y2, y3, y4][0]? := hf 0 _ rfl
  have g1 : DataW.trod enc Tryz.prog w base spare held n 3 (([c0, c1, c2, c3, c4].drop 1).take (Tryz.prog.cellsOf 3)) = [y0, y1, y2, y3, y4][1]? := hf 1 _ rfl
  have g2 : DataW.trod enc Tryz.prog w base spare held n 33 (([c0, c1, c2, c3, c4].drop 2).take (Tryz.prog.cellsOf 33)) = [y0, y1, y2, y3, y4][2]? := hf 2 _ rfl
  have g3 : DataW.trod enc Tryz.prog w base spare held n 23 (([c0, c1, c2, c3, c4].drop 3).take (Tryz.prog.cellsOf 23)) = [y0, y1, y2, y3, y4][3]? := hf 3 _ rfl
  have g4 : DataW.trod enc Tryz.prog w base spare held n 34 (([c0, c1, c2, c3, c4].drop 4).take (Tryz.prog.cellsOf 34)) = [y0, y1, y2, y3, y4][4]? := hf 4 _ rfl
  rw [show Tryz.prog.cellsOf 9 = 1 from by kernel_rfl] at g0
  simp only [List.drop_succ_cons, List.drop_zero, List.take_succ_cons, List.take_zero, List.getElem?_cons_succ, List.getElem?_cons_zero] at g0
  obtain ⟨x_0, e0, d0, f0_0⟩ := DataW.trod_string Tryz.underlying9 g0
  simp only [List.cons.injEq, and_true] at e0
  subst e0
  rw [show Tryz.prog.cellsOf 3 = 1 from by kernel_rfl] at g1
  simp only [List.drop_succ_cons, List.drop_zero, List.take_succ_cons, List.take_zero, List.getElem?_cons_succ, List.getElem?_cons_zero] at g1
  obtain ⟨x_1, e1, d1, f1_0⟩ := DataW.trod_int Tryz.underlying3 g1
  simp only [List.cons.injEq, and_true] at e1
  subst e1
  rw [show Tryz.prog.cellsOf 33 = 1 from by kernel_rfl] at g2
  simp only [List.drop_succ_cons, List.drop_zero, List.take_succ_cons, List.take_zero, List.getElem?_cons_succ, List.getElem?_cons_zero] at g2
  obtain ⟨x_2A, x_2n, x_2c, e2, f2_0⟩ := c_slice Tryz.underlying33 g2
  simp only [List.cons.injEq, and_true] at e2
  subst e2
  rw [show Tryz.prog.cellsOf 23 = 1 from by kernel_rfl] at g3
  simp only [List.drop_succ_cons, List.drop_zero, List.take_succ_cons, List.take_zero, List.getElem?_cons_succ, List.getElem?_cons_zero] at g3
  obtain ⟨x_3A, x_3n, x_3c, e3, f3_0⟩ := c_slice Tryz.underlying23 g3
  simp only [List.cons.injEq, and_true] at e3
  subst e3
  rw [show Tryz.prog.cellsOf 34 = 1 from by kernel_rfl] at g4
  simp only [List.drop_succ_cons, List.drop_zero, List.take_succ_cons, List.take_zero, List.getElem?_cons_succ, List.getElem?_cons_zero] at g4
  obtain ⟨x_4A, x_4n, x_4c, e4, f4_0⟩ := c_slice Tryz.underlying34 g4
  simp only [List.cons.injEq, and_true] at e4
  subst e4
  refine ⟨x_0, x_1, x_2A, x_2n, x_2c, _, _, x_3A, x_3n, x_3c, _, _, x_4A, x_4n, x_4c, _, _, rfl, ?_, f0_0, f1_0, f2_0, f3_0, f4_0⟩
  simp only [List.map_cons, List.map_nil, show y0.1 = _ from congrArg Prod.fst d0, show y1.1 = _ from congrArg Prod.fst d1]
theorem fieldTwo : TwoStr Tryz.prog 51 9 := ⟨_, _, Tryz.underlying51, rfl, rfl, rfl, rfl, Tryz.underlying9, by kernel_rfl, by kernel_rfl⟩
theorem open_bytS {A : Option Addr} {n c : Nat} {d : DataW H} {p : List MemPlace} (h : DataW.Trod enc Tryz.prog w base spare held 23 (.slice A n c) d p) :
  ∃ b : ByteArray, RS (fun _ => False) w 1 ⟨A, n, c⟩ (bytC b) ∧ b.size + 1 ≤ Rows.uptoBulk d := by
 obtain ⟨fuel, hf⟩ := h
 have hf' : DataW.trod enc Tryz.prog w base spare held fuel 23 [.slice A n c] = some (d, p) := by simpa [Value.cells] using hf
 obtain ⟨b, s, e1, e2, -, e4⟩ := open_bytT Tryz.underlying23 Tryz.underlying5 (by kernel_rfl) hf'
 simp only [List.cons.injEq, and_true] at e1
 have e5 : s = ⟨A, n, c⟩ := by
  obtain ⟨a, b, d⟩ := s
  unfold Sl.v at e1
  injection e1 with e1 e2 e3
  subst e1 e2 e3; rfl
 subst e5
 exact ⟨b, e2, e4⟩
def blkX (x : Vr) : Nat := x.names.length + totS x.names + x.key.size + x.tag.size + x.body.size + 1
def blkV (m : MV) : Nat := m.addr.size + (3 * m.f.length + sumF m.f) + m.body.size + (m.vars.map fun x => blkX x.1).sum
theorem mk_vr {fuel : Nat} {cs : List Value} {x : DataW H × List MemPlace} (h : DataW.trod enc Tryz.prog w base spare held fuel 58 cs = some x) :
  ∃ a : Vr × VrM, cs = vrC a ∧ VrAt (fun _ => False) w a ∧ blkX a.1 ≤ Rows.uptoBulk x.1 := by
 obtain ⟨x_0A, x_0n, x_0c, x_0d, x_0p, x_1, x_2, x_3A, x_3n, x_3c, x_3d, x_3p, rfl, hd, h0, -, -, h3⟩ := c_Vt h
 obtain ⟨L, hL, -, hc, hb⟩ := open_strsL Tryz.underlying53 Tryz.underlying9 (by kernel_rfl) h0
 obtain ⟨b, hB, hbb⟩ := open_bytS h3
 refine ⟨(⟨L, x_1, x_2, b⟩, ⟨⟨x_0A, x_0n, x_0c⟩, ⟨x_3A, x_3n, x_3c⟩⟩), rfl, ⟨⟨hL, fun _ _ _ hf => hf, hc⟩, hB⟩, ?_⟩
 rw [hd]
 simp only [Rows.uptoBulk, Rows.uptoBulkAll, sz_data, blkX]
 omega
theorem sum_bulk {l : List ((Vr × VrM) × DataW H)} (h : ∀ y ∈ l, VrAt (fun _ => False) w y.1 ∧ blkX y.1.1 ≤ Rows.uptoBulk y.2) : ((l.map (·.1)).map fun x => blkX x.1).sum ≤ Rows.uptoBulkAll (l.map (·.2)) := by
 induction l with
 | nil => simp [Rows.uptoBulkAll]
 | cons y l ih =>
  have h1 := (h y (List.mem_cons_self ..)).2
  have h2 := ih (fun z hz => h z (List.mem_cons_of_mem _ hz))
  simp only [List.map_cons, List.sum_cons, Rows.uptoBulkAll]
  omega
theorem mk_ver {x_0 : ByteArray} {x_1 : Int} {x_2A : Option Addr} {x_2n x_2c : Nat} {x_2d : DataW H} {x_2p : List MemPlace} {x_3A : Option Addr} {x_3n x_3c : Nat} {x_3d : DataW H} {x_3p : List MemPlace} {x_4A : Option Addr} {x_4n x_4c : Nat} {x_4d : DataW H} {x_4p : List MemPlace}
  (h2 : DataW.Trod enc Tryz.prog w base spare held 33 (.slice x_2A x_2n x_2c) x_2d x_2p) (h3 : DataW.Trod enc Tryz.prog w base spare held 23 (.slice x_3A x_3n x_3c) x_3d x_3p) (h4 : DataW.Trod enc Tryz.prog w base spare held 34 (.slice x_4A x_4n x_4c) x_4d x_4p) :
  ∃ m : MV, [.string x_0, .int .i64 x_1, .slice x_2A x_2n x_2c, .slice x_3A x_3n x_3c, .slice x_4A x_4n x_4c] = m.cells ∧ m.At (fun _ => False) w ∧ blkV m ≤ Rows.uptoBulk (.agg [.lit (.string x_0.data.toList), .lit (.int .i64 x_1), x_2d, x_3d, x_4d]) := by
 obtain ⟨f, hf, -, hfc, hfb⟩ := open_fldsU Tryz.underlying33 fieldTwo h2
 obtain ⟨b, hB, hbb⟩ := open_bytS h3
 obtain ⟨fuel, hv⟩ := h4
 have hv' : DataW.trod enc Tryz.prog w base spare held fuel 34 [.slice x_4A x_4n x_4c] = some (x_4d, x_4p) := by simpa [Value.cells] using hv
 haveI : Inhabited (Vr × VrM) := ⟨(⟨[], ⟨#[]⟩, ⟨#[]⟩, ⟨#[]⟩⟩, ⟨sl0, sl0⟩)⟩
 obtain ⟨A, n, c, L, hcs, hr, -, hc, hl, hy, hbl, -⟩ := open_slT (α := Vr × VrM) (k := 4) Tryz.underlying34 (by kernel_rfl) (by decide) vrC (fun _ => rfl) (fun a d => VrAt (fun _ => False) w a ∧ blkX a.1 ≤ Rows.uptoBulk d) (fun fuel cs x hx => mk_vr hx) hv'
 simp only [List.cons.injEq, Value.slice.injEq, and_true] at hcs
 obtain ⟨rfl, rfl, rfl⟩ := hcs
 have hsb := sum_bulk hy
 have hbl2 : Rows.uptoBulkAll (L.map (·.2)) + 1 ≤ Rows.uptoBulk x_4d := hbl
 obtain ⟨V, hV⟩ : ∃ V : List (Vr × VrM), L.map (·.1) = V := ⟨_, rfl⟩
 rw [hV] at hr hsb
 refine ⟨⟨x_0, x_1, f, b, V, ⟨x_2A, x_2n, x_2c⟩, ⟨x_3A, x_3n, x_3c⟩, ⟨x_4A, x_4n, x_4c⟩⟩, rfl, ⟨⟨hf, fun _ _ _ hf => hf, hfc⟩, hB, ⟨hr, fun _ _ _ hf => hf, hc⟩, fun x hx => ?_⟩, ?_⟩
 ·rw [← hV] at hx
  obtain ⟨z, hz, rfl⟩ := List.mem_map.1 hx
  exact (hy z hz).1
 ·simp only [Rows.uptoBulk, Rows.uptoBulkAll, sz_data, blkV]
  omega
theorem blk_len {l : List (Vr × VrM)} : l.length ≤ (l.map fun x => blkX x.1).sum ∧ ∀ x ∈ l, blkX x.1 ≤ (l.map fun x => blkX x.1).sum := by
 induction l with
 | nil => exact ⟨Nat.le_refl _, fun x hx => by cases hx⟩
 | cons y l ih =>
  have h0 : 1 ≤ blkX y.1 := by unfold blkX; omega
  simp only [List.map_cons, List.sum_cons, List.length_cons]
  refine ⟨by omega, fun x hx => ?_⟩
  rcases List.mem_cons.1 hx with rfl | hx
  ·omega
  ·have := ih.2 x hx; omega
end
end Go.Proofs.YtmckbcbdnckngaaGreatDoor

namespace Go.Proofs.YtmckbcbdnckngaaGreatDoor
open Go.RowKit

theorem szA_blk (m : MV) : szA (acV m) ≤ 12 * blkV m := by
 have h : (m.vars.map fun x => szX x.1).sum ≤ 12 * (m.vars.map fun x => blkX x.1).sum := by
  generalize m.vars = l
  induction l with
  | nil => exact Nat.le_refl _
  | cons y l ih =>
   have h0 : szX y.1 ≤ 12 * blkX y.1 := by
    have e : (y.1.names.map (·.size)).sum = totS y.1.names := rfl
    unfold szX blkX
    rw [e]; omega
   simp only [List.map_cons, List.sum_cons]
   omega
 have hs : szA (acV m) = m.addr.size + m.body.size + 0 + 0 + (sumF m.f + 4 * m.f.length) + (0 + 4 * 0) + (m.vars.map fun x => szX x.1).sum := rfl
 rw [hs]
 unfold blkV
 omega
end Go.Proofs.YtmckbcbdnckngaaGreatDoor

namespace Go.Proofs.YtmckbcbdnckngaaGreatDoor
open Go.ChangeShapes Go.WideShapes Go.RowKit Go.Deep Go.Joins
section
variable {H : Type} {enc : TypeId × Value → H} {w : World} {base : Nat} {spare : Nat → Bool} {held : Bool}
theorem c_Rq {fuel : Nat} {cs : List Value} {x : DataW H × List MemPlace} (h : DataW.trod enc Tryz.prog w base spare held fuel 42 cs = some x) :
  ∃ (x_0 : ByteArray) (x_1 : ByteArray) (x_2A : Option Addr) (x_2n : Nat) (x_2c : Nat) (x_2d : DataW H) (x_2p : List MemPlace), cs = [.string x_0, .string x_1, .slice x_2A x_2n x_2c] ∧ x.1 = .agg [.lit (.string x_0.data.toList), .lit (.string x_1.data.toList), x_2d] ∧ (x_0.size ≤ maxLen ∧ x_1.size ≤ maxLen ∧ DataW.Trod enc Tryz.prog w base spare held 33 (.slice x_2A x_2n x_2c) x_2d x_2p) := by
 obtain ⟨xs, n, _, rfl, hl, hlen, hf⟩ := DataW.trod_struct Tryz.underlying42 h
 rw [show Tryz.prog.cellsOf 42 = 3 from by kernel_rfl] at hl
 match cs, hl with
 | [c0, c1, c2], _ =>
 have hlen : xs.length = 3 := hlen
 match xs, hlen with
 | [y0, y1, y2], _ =>
  have g0 : DataW.trod enc Tryz.prog w base spare held n 9 (([c0, c1, c2].drop 0).take (Tryz.prog.cellsOf 9)) = [y0, y1, y2][0]? := hf 0 _ rfl
  have g1 : DataW.trod enc Tryz.prog w base spare held n 9 (([c0, c1, c2].drop 1).take (Tryz.prog.cellsOf 9)) = [y0, y1, y2][1]? := hf 1 _ rfl
  have g2 : DataW.trod enc Tryz.prog w base spare held n 33 (([c0, c1, c2].drop 2).take (Tryz.prog.cellsOf 33)) = [y0, y1, y2][2]? := hf 2 _ rfl
  rw [show Tryz.prog.cellsOf 9 = 1 from by kernel_rfl] at g0
  simp only [List.drop_succ_cons, List.drop_zero, List.take_succ_cons, List.take_zero, List.getElem?_cons_succ, List.getElem?_cons_zero] at g0
  obtain ⟨x_0, e0, d0, f0_0⟩ := DataW.trod_string Tryz.underlying9 g0
  simp only [List.cons.injEq, and_true] at e0
  subst e0
  rw [show Tryz.prog.cellsOf 9 = 1 from by kernel_rfl] at g1
  simp only [List.drop_succ_cons, List.drop_zero, List.take_succ_cons, List.take_zero, List.getElem?_cons_succ, List.getElem?_cons_zero] at g1
  obtain ⟨x_1, e1, d1, f1_0⟩ := DataW.trod_string Tryz.underlying9 g1
  simp only [List.cons.injEq, and_true] at e1
  subst e1
  rw [show Tryz.prog.cellsOf 33 = 1 from by kernel_rfl] at g2
  simp only [List.drop_succ_cons, List.drop_zero, List.take_succ_cons, List.take_zero, List.getElem?_cons_succ, List.getElem?_cons_zero] at g2
  obtain ⟨x_2A, x_2n, x_2c, e2, f2_0⟩ := c_slice Tryz.underlying33 g2
  simp only [List.cons.injEq, and_true] at e2
  subst e2
  refine ⟨x_0, x_1, x_2A, x_2n, x_2c, _, _, rfl, ?_, f0_0, f1_0, f2_0⟩
  simp only [List.map_cons, List.map_nil, show y0.1 = _ from congrArg Prod.fst d0, show y1.1 = _ from congrArg Prod.fst d1]
theorem c_Ac {fuel : Nat} {cs : List Value} {x : DataW H × List MemPlace} (h : DataW.trod enc Tryz.prog w base spare held fuel 68 cs = some x) :
  ∃ (x_0 : Int) (x_1 : Int) (x_2 : Int) (x_3_0 : ByteArray) (x_3_1 : Int) (x_3_2A : Option Addr) (x_3_2n : Nat) (x_3_2c : Nat) (x_3_2d : DataW H) (x_3_2p : List MemPlace) (x_3_3A : Option Addr) (x_3_3n : Nat) (x_3_3c : Nat) (x_3_3d : DataW H) (x_3_3p : List MemPlace) (x_3_4A : Option Addr) (x_3_4n : Nat) (x_3_4c : Nat) (x_3_4d : DataW H) (x_3_4p : List MemPlace) (x_4_0 : ByteArray) (x_4_1 : ByteArray) (x_4_2A : Option Addr) (x_4_2n : Nat) (x_4_2c : Nat) (x_4_2d : DataW H) (x_4_2p : List MemPlace), cs = [.int .u8 x_0, .int .i64 x_1, .int .i64 x_2, .string x_3_0, .int .i64 x_3_1, .slice x_3_2A x_3_2n x_3_2c, .slice x_3_3A x_3_3n x_3_3c, .slice x_3_4A x_3_4n x_3_4c, .string x_4_0, .string x_4_1, .slice x_4_2A x_4_2n x_4_2c] ∧ x.1 = .agg [.lit (.int .u8 x_0), .lit (.int .i64 x_1), .lit (.int .i64 x_2), .agg [.lit (.string x_3_0.data.toList), .lit (.int .i64 x_3_1), x_3_2d, x_3_3d, x_3_4d], .agg [.lit (.string x_4_0.data.toList), .lit (.string x_4_1.data.toList), x_4_2d]] ∧ ((Lit.int .u8 x_0).wf = true ∧ (Lit.int .i64 x_1).wf = true ∧ (Lit.int .i64 x_2).wf = true ∧ x_3_0.size ≤ maxLen ∧ (Lit.int .i64 x_3_1).wf = true ∧ DataW.Trod enc Tryz.prog w base spare held 33 (.slice x_3_2A x_3_2n x_3_2c) x_3_2d x_3_2p ∧ DataW.Trod enc Tryz.prog w base spare held 23 (.slice x_3_3A x_3_3n x_3_3c) x_3_3d x_3_3p ∧ DataW.Trod enc Tryz.prog w base spare held 34 (.slice x_3_4A x_3_4n x_3_4c) x_3_4d x_3_4p ∧ x_4_0.size ≤ maxLen ∧ x_4_1.size ≤ maxLen ∧ DataW.Trod enc Tryz.prog w base spare held 33 (.slice x_4_2A x_4_2n x_4_2c) x_4_2d x_4_2p) := by
 obtain ⟨xs, n, _, rfl, hl, hlen, hf⟩ := DataW.trod_struct Tryz.underlying68 h
 rw [show Tryz.prog.cellsOf 68 = 11 from by kernel_rfl] at hl
 match cs, hl with
 | [c0, c1, c2, c3, c4, c5, c6, c7, c8, c9, c10], _ =>
 have hlen : xs.length = 5 := hlen
 match xs, hlen with
 | [y0, y1, y2, y3, y4], _ =>
  have g0 : DataW.trod enc Tryz.prog w base spare held n 5 (([c0, c1, c2, c3, c4, c5, c6, c7, c8, c9, c10].drop 0).take (Tryz.prog.cellsOf 5)) = [y0, y1, y2, y3, y4][0]? := hf 0 _ rfl
  have g1 : DataW.trod enc Tryz.prog w base spare held n 3 (([c0, c1, c2, c3, c4, c5, c6, c7, c8, c9, c10].drop 1).take (Tryz.prog.cellsOf 3)) = [y0, y1, y2, y3, y4][1]? := hf 1 _ rfl
  have g2 : DataW.trod enc Tryz.prog w base spare held n 3 (([c0, c1, c2, c3, c4, c5, c6, c7, c8, c9, c10].drop 2).take (Tryz.prog.cellsOf 3)) = [y0, y1, y2, y3, y4][2]? := hf 2 _ rfl
  have g3 : DataW.trod enc Tryz.prog w base spare held n 36 (([c0, c1, c2, c3, c4, c5, c6, c7, c8, c9, c10].drop 3).take (Tryz.prog.cellsOf 36)) = [y0, y1, y2, y3, y4][3]? := hf 3 _ rfl
  have g4 : DataW.trod enc Tryz.prog w base spare held n 42 (([c0, c1, c2, c3, c4, c5, c6, c7, c8, c9, c10].drop 8).take (Tryz.prog.cellsOf 42)) = [y0, y1, y2, y3, y4][4]? := hf 4 _ rfl
  rw [show Tryz.prog.cellsOf 5 = 1 from by kernel_rfl] at g0
  simp only [List.drop_succ_cons, List.drop_zero, List.take_succ_cons, List.take_zero, List.getElem?_cons_succ, List.getElem?_cons_zero] at g0
  obtain ⟨x_0, e0, d0, f0_0⟩ := DataW.trod_int Tryz.underlying5 g0
  simp only [List.cons.injEq, and_true] at e0
  subst e0
  rw [show Tryz.prog.cellsOf 3 = 1 from by kernel_rfl] at g1
  simp only [List.drop_succ_cons, List.drop_zero, List.take_succ_cons, List.take_zero, List.getElem?_cons_succ, List.getElem?_cons_zero] at g1
  obtain ⟨x_1, e1, d1, f1_0⟩ := DataW.trod_int Tryz.underlying3 g1
  simp only [List.cons.injEq, and_true] at e1
  subst e1
  rw [show Tryz.prog.cellsOf 3 = 1 from by kernel_rfl] at g2
  simp only [List.drop_succ_cons, List.drop_zero, List.take_succ_cons, List.take_zero, List.getElem?_cons_succ, List.getElem?_cons_zero] at g2
  obtain ⟨x_2, e2, d2, f2_0⟩ := DataW.trod_int Tryz.underlying3 g2
  simp only [List.cons.injEq, and_true] at e2
  subst e2
  rw [show Tryz.prog.cellsOf 36 = 5 from by kernel_rfl] at g3
  simp only [List.drop_succ_cons, List.drop_zero, List.take_succ_cons, List.take_zero, List.getElem?_cons_succ, List.getElem?_cons_zero] at g3
  obtain ⟨x_3_0, x_3_1, x_3_2A, x_3_2n, x_3_2c, x_3_2d, x_3_2p, x_3_3A, x_3_3n, x_3_3c, x_3_3d, x_3_3p, x_3_4A, x_3_4n, x_3_4c, x_3_4d, x_3_4p, e3, d3, f3_0, f3_1, f3_2, f3_3, f3_4⟩ := c_Ve g3
  simp only [List.cons.injEq, and_true] at e3
  obtain ⟨rfl, rfl, rfl, rfl, rfl⟩ := e3
  rw [show Tryz.prog.cellsOf 42 = 3 from by kernel_rfl] at g4
  simp only [List.drop_succ_cons, List.drop_zero, List.take_succ_cons, List.take_zero, List.getElem?_cons_succ, List.getElem?_cons_zero] at g4
  obtain ⟨x_4_0, x_4_1, x_4_2A, x_4_2n, x_4_2c, x_4_2d, x_4_2p, e4, d4, f4_0, f4_1, f4_2⟩ := c_Rq g4
  simp only [List.cons.injEq, and_true] at e4
  obtain ⟨rfl, rfl, rfl⟩ := e4
  refine ⟨x_0, x_1, x_2, x_3_0, x_3_1, x_3_2A, x_3_2n, x_3_2c, x_3_2d, x_3_2p, x_3_3A, x_3_3n, x_3_3c, x_3_3d, x_3_3p, x_3_4A, x_3_4n, x_3_4c, x_3_4d, x_3_4p, x_4_0, x_4_1, x_4_2A, x_4_2n, x_4_2c, x_4_2d, x_4_2p, rfl, ?_, f0_0, f1_0, f2_0, f3_0, f3_1, f3_2, f3_3, f3_4, f4_0, f4_1, f4_2⟩
  simp only [List.map_cons, List.map_nil, show y0.1 = _ from congrArg Prod.fst d0, show y1.1 = _ from congrArg Prod.fst d1, show y2.1 = _ from congrArg Prod.fst d2, d3, d4]
theorem open_Rq {r : Reach} {b0 : Nat} {v : Value} {d : DataW H} {p : List MemPlace} (hv : Value.okWide Tryz.prog w r b0 42 v) (h : DataW.Trod enc Tryz.prog w base spare held 42 v d p) :
  ∃ (x_0 : ByteArray) (x_1 : ByteArray) (x_2A : Option Addr) (x_2n : Nat) (x_2c : Nat) (x_2d : DataW H) (x_2p : List MemPlace), v = .agg #[.string x_0, .string x_1, .slice x_2A x_2n x_2c] ∧ d = .agg [.lit (.string x_0.data.toList), .lit (.string x_1.data.toList), x_2d] ∧ (x_0.size ≤ maxLen ∧ x_1.size ≤ maxLen ∧ DataW.Trod enc Tryz.prog w base spare held 33 (.slice x_2A x_2n x_2c) x_2d x_2p) := by
 obtain ⟨⟨cs⟩, fuel, rfl, hf⟩ := open_agg Tryz.underlying42 hv h
 obtain ⟨x_0, x_1, x_2A, x_2n, x_2c, x_2d, x_2p, hcs, hd, hfa⟩ := c_Rq hf
 exact ⟨x_0, x_1, x_2A, x_2n, x_2c, x_2d, x_2p, by rw [show cs = _ from hcs], hd, hfa⟩
def blkA (a : Ac) : Nat := blkV a.m + a.me.size + a.ta.size + (3 * a.rf.length + sumF a.rf) + 1
theorem szA_blkA (a : Ac) : szA a ≤ 12 * blkA a := by
 have h1 := szA_blk a.m
 have h2 : szA a = szA (acV a.m) + a.ta.size + a.me.size + (sumF a.rf + 4 * a.rf.length) := by
  have e1 : szA (acV a.m) = a.m.addr.size + a.m.body.size + 0 + 0 + (sumF a.m.f + 4 * a.m.f.length) + (0 + 4 * 0) + (a.m.vars.map fun x => szX x.1).sum := rfl
  rw [e1]; unfold szA; omega
 unfold blkA
 omega
theorem mk_ac {fuel : Nat} {cs : List Value} {x : DataW H × List MemPlace} (h : DataW.trod enc Tryz.prog w base spare held fuel 68 cs = some x) :
  ∃ a : Ac, cs = a.cells ∧ a.At w ∧ blkA a ≤ Rows.uptoBulk x.1 := by
 obtain ⟨x_0, x_1, x_2, x_3_0, x_3_1, x_3_2A, x_3_2n, x_3_2c, x_3_2d, x_3_2p, x_3_3A, x_3_3n, x_3_3c, x_3_3d, x_3_3p, x_3_4A, x_3_4n, x_3_4c, x_3_4d, x_3_4p, x_4_0, x_4_1, x_4_2A, x_4_2n, x_4_2c, x_4_2d, x_4_2p, rfl, hd, f0, f1, f2, f3, f4, f5, f6, f7, f8, f9, f10⟩ := c_Ac h
 obtain ⟨m, hme, hm, hmb⟩ := mk_ver (x_0 := x_3_0) (x_1 := x_3_1) f5 f6 f7
 obtain ⟨rf, hrf, -, hrc, hrb⟩ := open_fldsU Tryz.underlying33 fieldTwo f10
 have hk : x_0 = ((x_0.toNat : Nat) : Int) := by
  simp only [Lit.wf, Bool.and_eq_true, decide_eq_true_eq] at f0
  have h9 : (IntKind.u8).min = 0 := rfl
  omega
 have hcl : ∀ kd : Nat, (⟨kd, x_1, x_2, m, x_4_0, x_4_1, rf, ⟨x_4_2A, x_4_2n, x_4_2c⟩⟩ : Ac).cells = [.int .u8 (kd : Int), .int .i64 x_1, .int .i64 x_2] ++ m.cells ++ [.string x_4_0, .string x_4_1, .slice x_4_2A x_4_2n x_4_2c] := fun _ => rfl
 refine ⟨⟨x_0.toNat, x_1, x_2, m, x_4_0, x_4_1, rf, ⟨x_4_2A, x_4_2n, x_4_2c⟩⟩, ?_, ⟨hm, ⟨hrf, fun _ _ _ hf => hf, hrc⟩⟩, ?_⟩
 ·rw [hcl, ← hme, ← hk]; rfl
 ·rw [hd]
  simp only [Rows.uptoBulk, Rows.uptoBulkAll, sz_data, blkA] at hmb ⊢
  omega
theorem sum_ac {l : List (Ac × DataW H)} (h : ∀ y ∈ l, y.1.At w ∧ blkA y.1 ≤ Rows.uptoBulk y.2) : ((l.map (·.1)).map blkA).sum ≤ Rows.uptoBulkAll (l.map (·.2)) := by
 induction l with
 | nil => simp [Rows.uptoBulkAll]
 | cons y l ih =>
  have h1 := (h y (List.mem_cons_self ..)).2
  have h2 := ih (fun z hz => h z (List.mem_cons_of_mem _ hz))
  simp only [List.map_cons, List.sum_cons, Rows.uptoBulkAll]
  omega
theorem blkA_sum (l : List Ac) : l.length ≤ (l.map blkA).sum ∧ (l.map szA).sum ≤ 12 * (l.map blkA).sum ∧ ∀ a ∈ l, blkA a ≤ (l.map blkA).sum := by
 induction l with
 | nil => exact ⟨Nat.le_refl _, Nat.le_refl _, fun a ha => by cases ha⟩
 | cons y l ih =>
  have h0 : 1 ≤ blkA y := by unfold blkA; omega
  have h1 := szA_blkA y
  simp only [List.map_cons, List.sum_cons, List.length_cons]
  refine ⟨by omega, by omega, fun a ha => ?_⟩
  rcases List.mem_cons.1 ha with rfl | ha
  ·omega
  ·have := ih.2.2 a ha; omega
theorem sm_blk {a : Ac} (h : blkA a ≤ 1048576) : a.Sm := by
 have h1 := blk_len (l := a.m.vars)
 have h2 : (a.m.vars.map fun x => blkX x.1).sum ≤ 1048576 := by unfold blkA blkV at h; omega
 refine ⟨by have := h1.1; omega, fun x hx => ?_⟩
 have h3 := h1.2 x hx
 have h4 : blkX x.1 = x.1.names.length + totS x.1.names + x.1.key.size + x.1.tag.size + x.1.body.size + 1 := rfl
 omega
theorem open_acts {A : Option Addr} {n c : Nat} {d : DataW H} {p : List MemPlace} (h : DataW.Trod enc Tryz.prog w base spare held 78 (.slice A n c) d p) (hk : Rows.uptoBulk d ≤ 1048576) :
  ∃ l : List Ac, AcsAt w A n l ∧ (l.map szA).sum ≤ 12 * Rows.uptoBulk d ∧ n ≤ Rows.uptoBulk d ∧ n ≤ c := by
 obtain ⟨fuel, hv⟩ := h
 have hv' : DataW.trod enc Tryz.prog w base spare held fuel 78 [.slice A n c] = some (d, p) := by simpa [Value.cells] using hv
 haveI : Inhabited Ac := ⟨⟨0, 0, 0, ⟨⟨#[]⟩, 0, [], ⟨#[]⟩, [], sl0, sl0, sl0⟩, ⟨#[]⟩, ⟨#[]⟩, [], sl0⟩⟩
 obtain ⟨A2, n2, c2, L, hcs, hr, -, hc, hl, hy, hbl, -⟩ := open_slT (α := Ac) (k := 11) Tryz.underlying78 (by kernel_rfl) (by decide) Ac.cells (fun _ => rfl) (fun a d => a.At w ∧ blkA a ≤ Rows.uptoBulk d) (fun fuel cs x hx => mk_ac hx) hv'
 simp only [List.cons.injEq, Value.slice.injEq, and_true] at hcs
 obtain ⟨rfl, rfl, rfl⟩ := hcs
 have hsb := sum_ac hy
 have hbl2 : Rows.uptoBulkAll (L.map (·.2)) + 1 ≤ Rows.uptoBulk d := hbl
 have hln : (L.map (·.1)).length = n := by rw [List.length_map]; exact hl
 have hev : ∀ a ∈ L.map (·.1), a.At w := fun a ha => by
  obtain ⟨z, hz, rfl⟩ := List.mem_map.1 ha
  exact (hy z hz).1
 generalize L.map (·.1) = V at *
 obtain ⟨b1, b2, b3⟩ := blkA_sum V
 exact ⟨V, ⟨hr, hev, fun a ha => sm_blk (by have := b3 a ha; omega)⟩, by omega, by omega, hc⟩
end
end Go.Proofs.YtmckbcbdnckngaaGreatDoor

namespace Go.Proofs.YtmckbcbdnckngaaGreatDoor
open Go.RowKit Go.ChangeShapes

theorem glH_of {W : World} {laid : List (String × DataW Unit)} (hp : (laid.all fun x => x.2.handleName?.isNone) = true) (h : laidMetH Tryz.prog laid W)
    (h1 : ("quayside/httpdate.months", Rows.laid_quayside_httpdate_months) ∈ laid) (h2 : ("quayside/httpdate.weekdays", Rows.laid_quayside_httpdate_weekdays) ∈ laid) (h3 : ("quayside/httpdate.lengths", Rows.laid_quayside_httpdate_lengths) ∈ laid) : GlH W :=
  ⟨tab_rd (l := moL) (fun s => .lit (.string s.data.toList)) Value.string hp h h1 (by kernel_rfl) (by kernel_rfl) Tryz.underlying157 (by kernel_rfl) (by kernel_rfl) (one_str Tryz.underlying9) rfl,
   tab_rd (l := wdL) (fun s => .lit (.string s.data.toList)) Value.string hp h h2 (by kernel_rfl) (by kernel_rfl) Tryz.underlying156 (by kernel_rfl) (by kernel_rfl) (one_str Tryz.underlying9) rfl,
   tab_rd (l := leL) (fun z => .lit (.int .i64 z)) (Value.int .i64) hp h h3 (by kernel_rfl) (by kernel_rfl) Tryz.underlying214 (by kernel_rfl) (by kernel_rfl) (one_int Tryz.underlying3) rfl⟩
end Go.Proofs.YtmckbcbdnckngaaGreatDoor

namespace Go.Proofs.YtmckbcbdnckngaaGreatDoor
open Go.RowKit

theorem gl_of {w : World} (h : w.ShapedOpen Tryz.prog) : Gl w :=
 Go.Proofs.cell_of_shapedOpen_int (zero := #[.int .i64 0]) (t := 3) h (of_decide_eq_true (by kernel_rfl)) (by kernel_rfl) rfl (by kernel_rfl) (by kernel_rfl) Tryz.underlying3
end Go.Proofs.YtmckbcbdnckngaaGreatDoor
