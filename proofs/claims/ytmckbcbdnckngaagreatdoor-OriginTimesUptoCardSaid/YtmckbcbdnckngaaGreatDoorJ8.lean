/- Walks of functions that the proof needs, and plain laws on what they compute. No condition beyond those that each one states. -/
import Derived.Test.YtmckbcbdnckngaaGreatDoorJ7
set_option maxHeartbeats 32000000
set_option maxRecDepth 100000
set_option linter.unusedSimpArgs false
set_option linter.unusedVariables false
namespace Go.Proofs.YtmckbcbdnckngaaGreatDoor
open Go.RowKit

theorem OrgP.vcell {w : World} {p : Nat} {R Q : Nat → Prop} {o : Org} {M : OM} (h : OrgP w p R Q o M) {k : Nat} (hk : k < o.vs.length) :
  ∃ (g c : Nat) (x : Int × MV), M.vs.v = .slice (some ⟨g, 0, none⟩) o.vs.length c ∧ o.vs[k]? = some (x.1, x.2.ver) ∧ x.2.At Q w ∧ (∀ i u, x.2.cells[i]? = some u → w.cell? ⟨g, k * 6 + 1 + i, none⟩ = some u) := by
 obtain ⟨h1, h2⟩ := h.vsn
 have hkm : k < M.mv.length := by omega
 obtain ⟨A, c, e, hle⟩ := own_shape h.vs
 have hv := h.vs
 rw [e] at hv
 have hr := Rd.of_own hv
 obtain ⟨g, of, e2, hc⟩ := hr.2 (by rw [pubC_len]; omega)
 subst e2
 have hof : of = 0 := by
  rcases hv.2 with ⟨hn, _⟩ | ⟨g', cap, cur, e3, _⟩
  ·cases hn
  ·injection e3 with e3; injection e3 with e3; injection e3
 subst hof
 refine ⟨g, c, M.mv[k], e, ?_, h.mem _ (List.getElem_mem hkm), fun i u hu => ?_⟩
 ·rw [← h.ver, List.getElem?_map, List.getElem?_eq_getElem hkm]; rfl
 ·have hi : i < 5 := by
   have := (List.getElem?_eq_some_iff.1 hu).1
   simpa [MV.cells] using this
  have hf := flat_at pubC 6 (fun _ => rfl) M.mv k (1 + i) hkm (by omega)
  have h9 := hc (k * 6 + (1 + i)) u (by rw [hf]; rw [Nat.add_comm 1 i]; exact hu)
  rw [Nat.zero_add] at h9
  rw [Nat.add_assoc]; exact h9
theorem or_At (Q R : Nat → Prop) (p : Nat) (o : Org) (M : OM) (text : ByteArray) (t : Int) (w : World) (hO : OrgP w p R Q o M) :
  Calls Tryz.prog 33 #[.pointer (some ⟨p, 0, none⟩), .string text, .int .i64 t] w fun e w' => Ext w w' ∧ ((findS o.vs text (cl55 t) = 0 ∧ e = .returned (.tuple #[.agg #[.string ⟨#[]⟩, .int .i64 0, .slice none 0 0, .slice none 0 0, .slice none 0 0], .int .i64 0, errV 3])) ∨
   ∃ (n : Nat) (q : Int × Ver) (m' : MV), findS o.vs text (cl55 t) = n + 1 ∧ o.vs[n]? = some q ∧ m'.ver = q.2 ∧ m'.At (fun i => i < w.heap.size) w' ∧ e = .returned (.tuple #[.agg m'.cells.toArray, .int .i64 ((n + 1 : Nat) : Int), .nilIface])) := by
 rw [e3]
 have HO := zi hO
 have HC := zi (fun w' => or_clip t w')
 have hB := Blk.new w 36 #[.string ⟨#[]⟩, .int .i64 0, .slice none 0 0, .slice none 0 0, .slice none 0 0]
 have HX := zi ((Ext.refl w).alloc (.cells #[.string ⟨#[]⟩, .int .i64 0, .slice none 0 0, .slice none 0 0, .slice none 0 0] 36))
 have HF := zi (or_find Q R p o M text (cl55 t) _ (hO.ext HX.out))
 have HFl := zi (fnd_le o.vs text (cl55 t))
 obtain ⟨n0, hn0⟩ : ∃ n, findS o.vs text (cl55 t) = n := ⟨_, rfl⟩
 rw [hn0] at HF HFl ⊢
 have HB := zi hB
 clear hO hB hn0
 cases n0 with
 | zero =>
  go_enter Tryz.func33, Tryz.ntmps33
  go_wp2_with fail
  refine (HC.out _).mono ?_; rintro e w1 ⟨rfl, rfl⟩
  go_wp2_with fail
  refine HF.out.mono ?_; rintro e w2 ⟨rfl, hb2⟩
  have HX2 := zi (HX.out.trans hb2)
  have HB2 := zi (HB.out.ext hb2)
  clear hb2 HF
  go_wp2_with (first | (refine wpList_storeB rfl 36 (.tmp 6) (.tmp 21) rfl rfl w.heap.size _ rfl rfl 36 _ HB2.out infoVe rfl (by simp [Value.oneCell']) ?_; intro w9 hB9 hx9))
  have y0 := hB9.cell 0; have y1 := hB9.cell 1; have y2 := hB9.cell 2; have y3 := hB9.cell 3; have y4 := hB9.cell 4
  simp only [List.getElem?_toArray, List.getElem?_cons_succ, List.getElem?_cons_zero] at y0 y1 y2 y3 y4
  have hE9 := HX2.out.growB hx9 (Nat.le_refl _)
  refine bodyPost_ret (v := .tuple #[.agg #[.string ⟨#[]⟩, .int .i64 0, .slice none 0 0, .slice none 0 0, .slice none 0 0], .int .i64 0, .iface 63 (.int .i64 3)]) (by simp [results, Tryz.results33, go_sem, y0, y1, y2, y3, y4]) rfl ?_
  exact ⟨hE9, .inl ⟨by trivial, rfl⟩⟩
 | succ n =>
  obtain ⟨g, c, ⟨at9, m⟩, hvs, hq, hmA, hcl⟩ := HO.out.vcell (k := n) (by have := HFl.out; omega)
  have hvb := (HO.out.bd _ (List.mem_of_getElem? hq)).1
  simp only at hmA hcl hq hvb
  have Hq := zi hq
  have hlen : o.vs.length ≤ 4096 := HO.out.few
  have HLn := zi (show n < o.vs.length from by have := HFl.out; omega)
  have HP := zi (fun w' (hx : Ext w w') => ((HO.out.ext hx).blk).cell 0)
  simp only [List.getElem?_toArray, List.getElem?_cons_zero, hvs] at HP
  have HCl := zi (fun w' (hx : Ext w w') => or_clone Q m w' (hmA.ext hx) (by have := hvb.fs.1; show m.f.length ≤ _; have h2 : m.ver.fs = m.f := rfl; rw [h2] at this; omega) (by have := hvb.body; have h2 : m.ver.body = m.body := rfl; rw [h2] at this; omega) (by have := hvb.vars; have h2 : m.ver.vars = m.vars.map (·.1) := rfl; rw [h2, List.length_map] at this; omega) (fun x hx2 => by have := hvb.each x.1 (List.mem_map.2 ⟨x, hx2, rfl⟩); exact ⟨this.1, by omega⟩))
  have HD := zi (fun w' (hx : Ext w w') => (⟨hx.cell (hcl 0 _ rfl), hx.cell (hcl 1 _ rfl), hx.cell (hcl 2 _ rfl), hx.cell (hcl 3 _ rfl), hx.cell (hcl 4 _ rfl)⟩ : w'.cell? ⟨g, n * 6 + 1, none⟩ = some (.string m.addr) ∧ w'.cell? ⟨g, n * 6 + 2, none⟩ = some (.int .i64 m.status) ∧ w'.cell? ⟨g, n * 6 + 3, none⟩ = some m.fs.v ∧ w'.cell? ⟨g, n * 6 + 4, none⟩ = some m.bd.v ∧ w'.cell? ⟨g, n * 6 + 5, none⟩ = some m.vr.v))
  have HMc := zi (show m.cells.toArray = #[.string m.addr, .int .i64 m.status, m.fs.v, m.bd.v, m.vr.v] from rfl)
  rw [HMc.out] at HCl
  clear hmA hcl hvb hvs hq
  obtain ⟨vv, hvv⟩ : ∃ v, m.ver = v := ⟨_, rfl⟩
  rw [hvv] at HCl Hq
  generalize m.fs.v = vfs at *
  generalize m.bd.v = vbd at *
  generalize m.vr.v = vvr at *
  generalize m.addr = ad at *
  generalize m.status = st at *
  go_enter Tryz.func33, Tryz.ntmps33
  go_wp2_with fail
  refine (HC.out _).mono ?_; rintro e w1 ⟨rfl, rfl⟩
  go_wp2_with fail
  refine HF.out.mono ?_; rintro e w2 ⟨rfl, hb2⟩
  have HX2 := zi (HX.out.trans hb2)
  have HB2 := zi (HB.out.ext hb2)
  have hp0 := HP.out _ HX2.out
  obtain ⟨d0, d1, d2, d3, d4⟩ := HD.out _ HX2.out
  have hln := HLn.out
  clear hb2 HF
  go_wp2_with fail
  refine (HCl.out _ HX2.out).mono ?_; rintro e w3 ⟨m', rfl, hver, hAt, hb3⟩
  have HX3 := zi (HX2.out.trans hb3)
  have HB3 := zi (HB2.out.ext hb3)
  have Hlt := zi HB2.out.lt
  have HAt := zi hAt
  have HMc2 := zi (show m'.cells.toArray = #[.string m'.addr, .int .i64 m'.status, m'.fs.v, m'.bd.v, m'.vr.v] from rfl)
  rw [HMc2.out]
  clear hb3 hAt hp0 d0 d1 d2 d3 d4 hln
  go_wp2_with (first | (refine wpList_storeB rfl 36 (.tmp 6) (.tmp 32) rfl rfl w.heap.size _ rfl rfl 36 _ HB3.out infoVe rfl (by simp [Value.oneCell', Sl.v]) ?_; intro w9 hB9 hx9))
  have y0 := hB9.cell 0; have y1 := hB9.cell 1; have y2 := hB9.cell 2; have y3 := hB9.cell 3; have y4 := hB9.cell 4
  simp only [List.getElem?_toArray, List.getElem?_cons_succ, List.getElem?_cons_zero] at y0 y1 y2 y3 y4
  have hE9 := HX3.out.growB hx9 (Nat.le_refl _)
  refine bodyPost_ret (v := .tuple #[.agg #[.string m'.addr, .int .i64 m'.status, m'.fs.v, m'.bd.v, m'.vr.v], .int .i64 ((n + 1 : Nat) : Int), .nilIface]) (by simp [results, Tryz.results33, go_sem, y0, y1, y2, y3, y4]) rfl ?_
  have hK : Keeps (fun i => i = w.heap.size) w3 w9 := Keeps.grown (Keeps.refl _ w3) hx9 (fun b hb => .inl (by injection hb with hb; exact hb.symm))
  refine ⟨hE9, .inr ⟨n, _, m', rfl, Hq.out, hver, ?_, rfl⟩⟩
  have h9 := HAt.out.keep hK (fun i hi => .inl (by rw [show i = w.heap.size from hi]; exact Hlt.out))
  exact h9.more (fun i hi => .inl (Nat.lt_of_lt_of_le hi HX2.out.size))
end Go.Proofs.YtmckbcbdnckngaaGreatDoor

namespace Go.Proofs.YtmckbcbdnckngaaGreatDoor
open Go.RowKit

theorem times_walk (A : Option Addr) (n c : Nat) (l : List Ac) (text : ByteArray) (t : Int) (w : World) (h : AcsAt w A n l) (hz : (l.map szA).sum ≤ 1000000000000) (hn : n ≤ 1000000000) (hts : text.size ≤ 9223372036854775807) (hg : Gl w) (hh : GlH w) (hp : GlP w) :
  Calls Tryz.prog 11 #[.slice A n c, .string text, .int .i64 t] w fun e w' => e = .returned (.bool true) ∧ Ext w w' := by
 have HGp := zi (fun w' (hx : Ext w w') => (⟨hg.ext hx, hh.ext hx, hp.ext hx⟩ : Gl w' ∧ GlH w' ∧ GlP w'))
 have HA := zi h
 have HLa := zi (act_large A n c l w h hz hn)
 have Hpl := zi (fun w' (hx : Ext w w') h1 h2 => law_played A n c l w' (h.ext hx) h1 h2 (hg.ext hx) (hh.ext hx) (hp.ext hx))
 clear h hg hh hp
 go_enter Tryz.func11, Tryz.ntmps11
 go_wp2_with fail
 refine HLa.out.mono ?_; rintro e w1 ⟨rfl, hb1⟩
 by_cases hL : 5000 < (l.map szA).sum ∨ 30 < n
 ·have hd : (decide (5000 < (l.map szA).sum) || decide (30 < n)) = true := by rcases hL with h | h <;> simp [h]
  rw [hd]
  go_wp2_with fail
  refine (law_awake _ (HGp.out _ (hb1)).1 (HGp.out _ (hb1)).2.1 (HGp.out _ (hb1)).2.2).mono ?_; rintro e w9 ⟨rfl, hb9⟩
  go_wp2_with fail
  go_ret
  exact ⟨rfl, (hb1).trans hb9⟩
 have hd : (decide (5000 < (l.map szA).sum) || decide (30 < n)) = false := by
  rw [Bool.or_eq_false_iff]; exact ⟨decide_eq_false (by omega), decide_eq_false (by omega)⟩
 rw [hd]
 have Hpl := zi (fun w' hx => Hpl.out w' hx (by omega) (by omega))
 clear hd
 by_cases hx2 : 2000 < text.size
 ·have hx3 : (2000 : Int) < (text.size : Int) := by omega
  go_wp2_with fail
  refine (law_awake _ (HGp.out _ (hb1)).1 (HGp.out _ (hb1)).2.1 (HGp.out _ (hb1)).2.2).mono ?_; rintro e w9 ⟨rfl, hb9⟩
  go_wp2_with fail
  go_ret
  exact ⟨rfl, (hb1).trans hb9⟩
 have hx3 : ¬ (2000 : Int) < (text.size : Int) := by omega
 go_wp2_with fail
 refine (law_awake _ (HGp.out _ hb1).1 (HGp.out _ hb1).2.1 (HGp.out _ hb1).2.2).mono ?_; rintro e w2 ⟨rfl, hb2⟩
 go_wp2_with fail
 refine (Hpl.out w2 (hb1.trans hb2)).mono ?_; rintro e w3 ⟨p, R, Q, M, ⟨⟨iA, im, ic⟩, ⟨uA, un, uc⟩, ⟨lA, ln, lc⟩, mv, ks⟩, rfl, hO, hS, -, -, hb3⟩
 have hlen := (play_len l).1
 have hll := HA.out.len
 have Hvs := zi (show (playS l).vs.length ≤ 1000000 by omega)
 clear hlen hll hL hx2 hx3
 have HB8 := zi (Blk.new w3 74 #[.slice iA im ic, .slice uA un uc, .slice lA ln lc])
 have hE4 := (Ext.refl w3).alloc (.cells #[.slice iA im ic, .slice uA un uc, .slice lA ln lc] 74)
 simp only [SM.cells, Sl.v]
 go_upto_region 4 with fail
 generalize w3.alloc (.cells #[.slice iA im ic, .slice uA un uc, .slice lA ln lc] 74) = w4 at *
 generalize w3.heap.size = b8 at *
 have HO := zi (hO.ext hE4); have HS := zi (hS.ext hE4)
 have HE4 := zi (((hb1.trans hb2).trans hb3).trans hE4)
 have Hbd := zi hO.bd
 clear hO hS hE4 hb1 hb2 hb3 Hpl HLa
 have Hmod := zi (fun w' (hx : Ext w4 w') => law_At R ⟨⟨iA, im, ic⟩, ⟨uA, un, uc⟩, ⟨lA, ln, lc⟩, mv, ks⟩ (playS l) text t w' (HS.out.ext hx) Hvs.out)
 simp only [SM.cells, Sl.v] at Hmod
 go_wp2_with fail
 refine (or_At Q R p (playS l) M text t w4 HO.out).mono ?_; rintro e w5 ⟨hb5, ⟨hz0, rfl⟩ | ⟨k, q, m, hf, hq, hmv, hm, rfl⟩⟩
 ·rw [hz0] at Hmod
  have HE6 := zi (hb5.alloc (.cells #[.string ⟨#[]⟩, .int .i64 0, .slice none 0 0, .slice none 0 0, .slice none 0 0] 36))
  have HB10 := zi (Blk.new w5 36 #[.string ⟨#[]⟩, .int .i64 0, .slice none 0 0, .slice none 0 0, .slice none 0 0])
  go_upto_region 5 with fail
  generalize w5.alloc (.cells #[.string ⟨#[]⟩, .int .i64 0, .slice none 0 0, .slice none 0 0, .slice none 0 0] 36) = w6 at *
  generalize w5.heap.size = b10 at *
  have s0 : w6.cell? ⟨b8, 0, none⟩ = some (.slice iA im ic) := (HB8.out.ext HE6.out).cell 0; have s1 : w6.cell? ⟨b8, 1, none⟩ = some (.slice uA un uc) := (HB8.out.ext HE6.out).cell 1; have s2 : w6.cell? ⟨b8, 2, none⟩ = some (.slice lA ln lc) := (HB8.out.ext HE6.out).cell 2
  go_wp2_with fail
  refine (Hmod.out w6 HE6.out).mono ?_; rintro e w7 ⟨rfl, hb7⟩
  clear s0 s1 s2
  go_upto_region 7 with fail
  have HI := zi (fun w' => base_Is 3 3 (by decide) (by decide) (by decide) w')
  rw [show errV 3 = .iface 63 (.int .i64 3) from rfl] at HI ⊢
  have z0 : w7.cell? ⟨b10, 0, none⟩ = some (.string ⟨#[]⟩) := (HB10.out.ext hb7).cell 0; have z1 : w7.cell? ⟨b10, 1, none⟩ = some (.int .i64 0) := (HB10.out.ext hb7).cell 1; have z2 : w7.cell? ⟨b10, 2, none⟩ = some (.slice none 0 0) := (HB10.out.ext hb7).cell 2; have z3 : w7.cell? ⟨b10, 3, none⟩ = some (.slice none 0 0) := (HB10.out.ext hb7).cell 3; have z4 : w7.cell? ⟨b10, 4, none⟩ = some (.slice none 0 0) := (HB10.out.ext hb7).cell 4
  go_wp2_with fail
  refine (HI.out w7).mono ?_; rintro e w8 ⟨rfl, hb8⟩
  simp only [decide_true]
  clear z0 z1 z2 z3 z4
  have z0 : w8.cell? ⟨b10, 0, none⟩ = some (.string ⟨#[]⟩) := (HB10.out.ext (hb7.trans hb8)).cell 0; have z1 : w8.cell? ⟨b10, 1, none⟩ = some (.int .i64 0) := (HB10.out.ext (hb7.trans hb8)).cell 1; have z2 : w8.cell? ⟨b10, 2, none⟩ = some (.slice none 0 0) := (HB10.out.ext (hb7.trans hb8)).cell 2; have z3 : w8.cell? ⟨b10, 3, none⟩ = some (.slice none 0 0) := (HB10.out.ext (hb7.trans hb8)).cell 3; have z4 : w8.cell? ⟨b10, 4, none⟩ = some (.slice none 0 0) := (HB10.out.ext (hb7.trans hb8)).cell 4
  have hm0 : (⟨⟨#[]⟩, 0, [], ⟨#[]⟩, [], sl0, sl0, sl0⟩ : MV).At (fun _ => False) w8 := ⟨RS.nil _ _ _, RS.nil _ _ _, RS.nil _ _ _, fun x hx => by cases hx⟩
  have HSa := zi (law_SameE (fun _ => False) (fun _ => False) _ _ w8 hm0 hm0 rfl (Nat.zero_le _) (Nat.zero_le _) (fun x hx => by cases hx))
  simp only [MV.cells, Sl.v, sl0] at HSa
  go_wp2_with fail
  refine HSa.out.mono ?_; rintro e w9 ⟨rfl, hb9⟩
  go_wp2_with fail
  go_ret
  exact ⟨rfl, (((HE4.out.trans HE6.out).trans hb7).trans hb8).trans hb9⟩
 ·rw [hf] at Hmod
  have hkv : k < (playS l).vs.length := by
   rcases Nat.lt_or_ge k (playS l).vs.length with h9 | h9
   ·exact h9
   ·rw [List.getElem?_eq_none h9] at hq; cases hq
  have hkm : k < mv.length := by have h9 := HS.out.vn.2; simp only at h9; omega
  have Him := zi (show im = (playS l).vs.length from HS.out.vn.1)
  have hqe : (playS l).vs[k] = q := by rw [List.getElem?_eq_getElem hkv] at hq; exact Option.some.inj hq
  have hve : mv[k].2.ver = q.2 := by
   have h1 : (mv.map (fun x => (x.1, x.2.ver)))[k]? = (playS l).vs[k]? := congrArg (·[k]?) HS.out.ver
   rw [List.getElem?_map, List.getElem?_eq_getElem hkm, hq] at h1
   simp only [Option.map_some, Option.some.injEq] at h1
   rw [← h1]
  have hvb := (Hbd.out _ (List.getElem_mem hkv)).1
  rw [hqe] at hvb
  obtain ⟨g, i0, hA, hc⟩ := HS.out.item hkm
  have hmem := HS.out.mem _ (List.getElem_mem hkm)
  simp only at hA hc hmem
  subst hA
  generalize mv[k] = x at *
  obtain ⟨at_, m2⟩ := x
  simp only at hve hmem hc
  have hmm : m.ver = m2.ver := hmv.trans hve.symm
  have hfl : m.f.length ≤ 131072 := by have h9 := hvb.fs.1; rw [← hmv] at h9; exact h9
  have hvl : m.vars.length ≤ 8 := by have h9 := hvb.vars; rw [← hmv] at h9; rw [show m.ver.vars = m.vars.map (·.1) from rfl, List.length_map] at h9; exact h9
  have hnl : ∀ x ∈ m.vars, x.1.names.length ≤ 1048576 := fun x hx => by have h9 := hvb.each x.1 (by rw [← hmv]; exact List.mem_map.2 ⟨x, hx, rfl⟩); exact h9.1
  have HSa := zi (fun w' (hx : Ext w5 w') => law_SameE _ _ m m2 w' (hm.ext hx) (hmem.ext (hb5.trans hx)) hmm (by omega) (by omega) (fun x hx => by have := hnl x hx; omega))
  have ha2 : m.addr = m2.addr := congrArg Ver.addr hmm
  have hs2 : m.status = m2.status := congrArg Ver.status hmm
  clear hve hvb hmm hmv hqe hq hm hmem hfl hvl hnl hf
  obtain ⟨addr, status, f, body, vars, ⟨fA, fn, fc⟩, ⟨bA, bn, bc⟩, ⟨vA, vn, vc⟩⟩ := m
  obtain ⟨addr2, status2, f2, body2, vars2, ⟨gA, gn, gc⟩, ⟨dA, dn, dc⟩, ⟨xA, xn, xc⟩⟩ := m2
  simp only at ha2 hs2
  subst ha2; subst hs2
  simp only [MV.cells, Sl.v] at HSa ⊢
  have c1 : w4.cell? ⟨g, i0 + k * 6 + 1, none⟩ = some (.string addr) := by have h1 := hc 1 _ rfl; rwa [← Nat.add_assoc] at h1
  have c2 : w4.cell? ⟨g, i0 + k * 6 + 2, none⟩ = some (.int .i64 status) := by have h1 := hc 2 _ rfl; rwa [← Nat.add_assoc] at h1
  have c3 : w4.cell? ⟨g, i0 + k * 6 + 3, none⟩ = some (.slice gA gn gc) := by have h1 := hc 3 _ rfl; rwa [← Nat.add_assoc] at h1
  have c4 : w4.cell? ⟨g, i0 + k * 6 + 4, none⟩ = some (.slice dA dn dc) := by have h1 := hc 4 _ rfl; rwa [← Nat.add_assoc] at h1
  have c5 : w4.cell? ⟨g, i0 + k * 6 + 5, none⟩ = some (.slice xA xn xc) := by have h1 := hc 5 _ rfl; rwa [← Nat.add_assoc] at h1
  clear hc
  have HE6 := zi (hb5.alloc (.cells #[.string addr, .int .i64 status, .slice fA fn fc, .slice bA bn bc, .slice vA vn vc] 36))
  have HE56 := zi ((Ext.refl w5).alloc (.cells #[.string addr, .int .i64 status, .slice fA fn fc, .slice bA bn bc, .slice vA vn vc] 36))
  have HB10 := zi (Blk.new w5 36 #[.string addr, .int .i64 status, .slice fA fn fc, .slice bA bn bc, .slice vA vn vc])
  go_upto_region 5 with fail
  generalize w5.alloc (.cells #[.string addr, .int .i64 status, .slice fA fn fc, .slice bA bn bc, .slice vA vn vc] 36) = w6 at *
  generalize w5.heap.size = b10 at *
  have s0 : w6.cell? ⟨b8, 0, none⟩ = some (.slice (some ⟨g, i0, none⟩) im ic) := (HB8.out.ext HE6.out).cell 0; have s1 : w6.cell? ⟨b8, 1, none⟩ = some (.slice uA un uc) := (HB8.out.ext HE6.out).cell 1; have s2 : w6.cell? ⟨b8, 2, none⟩ = some (.slice lA ln lc) := (HB8.out.ext HE6.out).cell 2
  go_wp2_with fail
  refine (Hmod.out w6 HE6.out).mono ?_; rintro e w7 ⟨rfl, hb7⟩
  clear s0 s1 s2
  have hk0 : ((((k + 1 : Nat) : Int)) == 0) = false := by rw [beq_eq_false_iff_ne]; omega
  have hk00 : (((k : Int) + 1) == 0) = false := by rw [beq_eq_false_iff_ne]; omega
  have hvs9 := Hvs.out
  have hwm : IntKind.i64.wrap (((k + 1 : Nat) : Int) - 1) = (k : Int) := by rw [IntWalk.i64_in _ (by omega)]; omega
  have hwk : IntKind.i64.wrap (k : Int) = (k : Int) := IntWalk.i64_in _ (by omega)
  have hwl : IntKind.i64.wrap ((k : Int) + 1 - 1) = (k : Int) := by rw [IntWalk.i64_in _ (by omega)]; omega
  have hkn : (k : Int) < (im : Int) := by have := Him.out; omega
  have HC8 := zi (fun w' (hx : Ext w7 w') => (⟨(HB10.out.ext (hb7.trans hx)).cell 0, (HB10.out.ext (hb7.trans hx)).cell 1, (HB10.out.ext (hb7.trans hx)).cell 2, (HB10.out.ext (hb7.trans hx)).cell 3, (HB10.out.ext (hb7.trans hx)).cell 4, (HB8.out.ext (HE6.out.trans (hb7.trans hx))).cell 0, (HE6.out.trans (hb7.trans hx)).cell c1, (HE6.out.trans (hb7.trans hx)).cell c2, (HE6.out.trans (hb7.trans hx)).cell c3, (HE6.out.trans (hb7.trans hx)).cell c4, (HE6.out.trans (hb7.trans hx)).cell c5⟩ : w'.cell? ⟨b10, 0, none⟩ = some (.string addr) ∧ w'.cell? ⟨b10, 1, none⟩ = some (.int .i64 status) ∧ w'.cell? ⟨b10, 2, none⟩ = some (.slice fA fn fc) ∧ w'.cell? ⟨b10, 3, none⟩ = some (.slice bA bn bc) ∧ w'.cell? ⟨b10, 4, none⟩ = some (.slice vA vn vc) ∧ w'.cell? ⟨b8, 0, none⟩ = some (.slice (some ⟨g, i0, none⟩) im ic) ∧ w'.cell? ⟨g, i0 + k * 6 + 1, none⟩ = some (.string addr) ∧ w'.cell? ⟨g, i0 + k * 6 + 2, none⟩ = some (.int .i64 status) ∧ w'.cell? ⟨g, i0 + k * 6 + 3, none⟩ = some (.slice gA gn gc) ∧ w'.cell? ⟨g, i0 + k * 6 + 4, none⟩ = some (.slice dA dn dc) ∧ w'.cell? ⟨g, i0 + k * 6 + 5, none⟩ = some (.slice xA xn xc)))
  clear c1 c2 c3 c4 c5
  go_upto_region 8 with fail
  have hL := (Ext.refl w7).drew
  refine wp_region_held_drew (S := (fun w' => w'.cell? ⟨b10, 0, none⟩ = some (.string addr) ∧ w'.cell? ⟨b10, 1, none⟩ = some (.int .i64 status) ∧ w'.cell? ⟨b10, 2, none⟩ = some (.slice fA fn fc) ∧ w'.cell? ⟨b10, 3, none⟩ = some (.slice bA bn bc) ∧ w'.cell? ⟨b10, 4, none⟩ = some (.slice vA vn vc) ∧ w'.cell? ⟨b8, 0, none⟩ = some (.slice (some ⟨g, i0, none⟩) im ic) ∧ w'.cell? ⟨g, i0 + k * 6 + 1, none⟩ = some (.string addr) ∧ w'.cell? ⟨g, i0 + k * 6 + 2, none⟩ = some (.int .i64 status) ∧ w'.cell? ⟨g, i0 + k * 6 + 3, none⟩ = some (.slice gA gn gc) ∧ w'.cell? ⟨g, i0 + k * 6 + 4, none⟩ = some (.slice dA dn dc) ∧ w'.cell? ⟨g, i0 + k * 6 + 5, none⟩ = some (.slice xA xn xc))) (by kernel_rfl) ?_ (fun hHeld => ?_)
  ·(try dsimp only); exact HC8.out _ hL
  refine zH (v := ?_) 0 (some 60) rfl ?_ ?_; rotate_left
  ·(intro w hSw; (try dsimp only at hSw); go_simp; (try with_reducible rfl))
  try simp only [zP]
  refine zH (v := ?_) 1 (some 61) rfl ?_ ?_; rotate_left
  ·(intro w hSw; (try dsimp only at hSw); go_simp; (try with_reducible rfl))
  try simp only [zP]
  refine zH (v := ?_) 2 (some 62) rfl ?_ ?_; rotate_left
  ·(intro w hSw; (try dsimp only at hSw); go_simp; (try with_reducible rfl))
  try simp only [zP]
  refine zH (v := ?_) 3 (some 63) rfl ?_ ?_; rotate_left
  ·(intro w hSw; (try dsimp only at hSw); go_simp; (try with_reducible rfl))
  try simp only [zP]
  refine zH (v := ?_) 4 (some 64) rfl ?_ ?_; rotate_left
  ·(intro w hSw; (try dsimp only at hSw); go_simp; (try with_reducible rfl))
  try simp only [zP]
  refine zH (v := ?_) 5 (some 65) rfl ?_ ?_; rotate_left
  ·(intro w hSw; (try dsimp only at hSw); go_simp; (try with_reducible rfl))
  try simp only [zP]
  refine zH (v := ?_) 6 (some 66) rfl ?_ ?_; rotate_left
  ·(intro w hSw; (try dsimp only at hSw); go_simp; (try with_reducible rfl))
  try simp only [zP]
  refine zH (v := ?_) 7 (some 67) rfl ?_ ?_; rotate_left
  ·(intro w hSw; (try dsimp only at hSw); go_simp; (try with_reducible rfl))
  try simp only [zP]
  refine zH (v := ?_) 8 (some 68) rfl ?_ ?_; rotate_left
  ·(intro w hSw; (try dsimp only at hSw); go_simp; (try with_reducible rfl))
  try simp only [zP]
  refine zH (v := ?_) 9 (some 69) rfl ?_ ?_; rotate_left
  ·(intro w hSw; (try dsimp only at hSw); go_simp; (try with_reducible rfl))
  try simp only [zP]
  refine zH (v := ?_) 10 (some 70) rfl ?_ ?_; rotate_left
  ·(intro w hSw; (try dsimp only at hSw); go_simp; (try with_reducible rfl))
  try simp only [zP]
  refine zH (v := ?_) 11 (some 71) rfl ?_ ?_; rotate_left
  ·(intro w hSw; (try dsimp only at hSw); go_simp; (try with_reducible rfl))
  try simp only [zP]
  refine zH (v := ?_) 12 (some 72) rfl ?_ ?_; rotate_left
  ·(intro w hSw; (try dsimp only at hSw); go_simp; (try with_reducible rfl))
  try simp only [zP]
  refine zH (v := ?_) 13 (some 73) rfl ?_ ?_; rotate_left
  ·(intro w hSw; (try dsimp only at hSw); go_simp; (try with_reducible rfl))
  try simp only [zP]
  refine zH (v := ?_) 14 (some 74) rfl ?_ ?_; rotate_left
  ·(intro w hSw; (try dsimp only at hSw); go_simp; (try with_reducible rfl))
  try simp only [zP]
  refine zH (v := ?_) 15 (some 75) rfl ?_ ?_; rotate_left
  ·(intro w hSw; (try dsimp only at hSw); go_simp; (try with_reducible rfl))
  try simp only [zP]
  refine zH (v := ?_) 16 (some 76) rfl ?_ ?_; rotate_left
  ·(intro w hSw; (try dsimp only at hSw); go_simp; (try with_reducible rfl))
  try simp only [zP]
  refine zH (v := ?_) 17 (some 77) rfl ?_ ?_; rotate_left
  ·(intro w hSw; (try dsimp only at hSw); go_simp; (try with_reducible rfl))
  try simp only [zP]
  refine zH (v := ?_) 18 (some 78) rfl ?_ ?_; rotate_left
  ·(intro w hSw; (try dsimp only at hSw); go_simp; (try with_reducible rfl))
  try simp only [zP]
  refine wpAnyH_ready (rs := [19]) (by kernel_rfl) (by simp) ?_
  refine AllReadyH.cons (o := ⟨some 79, _, _, _, _, _⟩) rfl (fun K hK => ?_) AllReadyH.nil
  go_simp
  refine (HSa.out _ (HE56.out.trans (hb7.trans hL))).mono ?_; rintro e w9 ⟨rfl, hb9⟩; replace hL := hL.trans hb9
  try go_wp2_with fail
  refine hK.out _ _ ?_ (fun hHeld => ?_)
  ·(try dsimp only); exact HC8.out _ hL
  clear hK K
  try simp only [zP]
  refine zH (v := ?_) 20 (some 80) rfl ?_ ?_; rotate_left
  ·(intro w hSw; (try dsimp only at hSw); go_simp; (try with_reducible rfl))
  try simp only [zP]
  refine zH (v := ?_) 21 (some 6) rfl ?_ ?_; rotate_left
  ·(intro w hSw; (try dsimp only at hSw); go_simp; (try with_reducible rfl))
  try simp only [zP]
  refine wpAnyH_done (by kernel_rfl) ?_ _
  go_wp2_with fail
  go_ret
  exact ⟨rfl, ((HE4.out.trans HE6.out).trans hb7).trans hL⟩
end Go.Proofs.YtmckbcbdnckngaaGreatDoor
